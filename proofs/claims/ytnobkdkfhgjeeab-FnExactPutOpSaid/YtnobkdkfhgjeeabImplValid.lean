/- Which programs are valid: the program's own text. -/
import Derived.Test.YtnobkdkfhgjeeabSpecProg
import Derived.Shelf.Abstract
namespace Go.Proofs.Ytnobkdkfhgjeeab
open Go.RowKit

theorem isValue_any (n : Int) (w : World) :
    Calls Try.prog 86 #[.int .i64 n] w fun e w' => e = .returned (.bool (isVal n)) ∧ w' = w := by
  by_cases h : 0 ≤ n
  · have h' : isVal n = decide (n ≤ 99) := by simp [isVal, h]
    rw [h']
    go_enter Try.func86, Try.ntmps86
    go_wp2
    go_ret
    exact ⟨rfl, rfl⟩
  · have h' : isVal n = false := by simp [isVal, h]
    have hd : decide (0 ≤ n) = false := by simpa using h
    rw [h']
    go_enter Try.func86, Try.ntmps86
    go_wp2
    go_ret
    exact ⟨rfl, rfl⟩

theorem any_getD {l : List Int} {q : Int → Bool} (k : Nat) (hk : k < l.length) (h : q (l.getD k 0) = true) : l.any q = true := by
  rw [List.any_eq_true]
  exact ⟨l[k], List.getElem_mem hk, by simpa [List.getD, hk] using h⟩
theorem any_none {l : List Int} {q : Int → Bool} (h : ∀ k, k < l.length → q (l.getD k 0) = false) : l.any q = false := by
  rw [List.any_eq_false]
  intro x hx
  obtain ⟨k, hk, rfl⟩ := List.getElem_of_mem hx
  have := h k hk
  simpa [List.getD, hk] using this

set_option maxHeartbeats 400000 in
/-- slices.IndexFunc, for a test that touches nothing. -/
theorem indexInt_any (g : Nat) (lb : Array Value) (q : Int → Bool) (a : Option Addr) (n c : Nat) (l : List Int) (w : World) (eg : ∀ args w, (callFunc g args).run Try.prog w = .ok (.enter g args) w)
    (hl : l.length = n) (hn : n ≤ maxLen) (hr : Rd w a (ints l)) (hp : ∀ x, Calls Try.prog g (#[.int .i64 x] ++ lb) w fun e w' => e = .returned (.bool (q x)) ∧ w' = w) :
    Calls Try.prog 98 #[.slice a n c, .func (.func g) #[] lb] w fun e w' => ∃ r : Int, e = .returned (.int .i64 r) ∧ decide (0 ≤ r) = l.any q ∧ w' = w := by
  unfold maxLen at hn
  have HL := Lib.hid hl
  clear hl
  go_enter Try.func98, Try.ntmps98
  go_wp2
  go_loopw [8] (fun i wr => ∃ k : Nat, k ≤ n ∧ i = .int .i64 k ∧ Hid (∀ j, j < k → q (l.getD j 0) = false) ∧ wr = w) (fun i _ => n - (intOf i).toNat)
  case atStart => exact ⟨0, by omega, rfl, Lib.hid (by omega), rfl⟩
  case round =>
    obtain ⟨k, hk, rfl, hall, rfl⟩ := hrel
    by_cases hlt : k < n
    · obtain ⟨b, o, rfl, hc⟩ := hr.int (by have := HL.out; omega)
      have g1 := hc k (by have := HL.out; omega)
      obtain ⟨x, hx⟩ : ∃ x, x = l.getD k 0 := ⟨_, rfl⟩
      rw [← hx] at g1
      have HX := Lib.hid hx
      clear hc hx
      rcases Bool.eq_false_or_eq_true (q x) with hq | hq
      · have HQ := Lib.hid hq
        clear hq
        go_wp2_with (go_at_fn g; refine (hp x).mono ?_; rintro e w' ⟨rfl, rfl⟩; rw [HQ.out])
        go_ret
        exact ⟨k, rfl, by rw [any_getD (q := q) k (by have := HL.out; omega) (by rw [← HX.out]; exact HQ.out)]; simp, rfl⟩
      · have HQ := Lib.hid hq
        clear hq
        go_wp2_with (go_at_fn g; refine (hp x).mono ?_; rintro e w' ⟨rfl, rfl⟩; rw [HQ.out])
        go_roundw
        case rel => exact ⟨k + 1, by omega, by go_num, Lib.hid (fun j hj => by
          rcases Nat.lt_or_ge j k with h | h
          · exact hall.out j h
          · have : j = k := by omega
            subst this
            rw [← HX.out]; exact HQ.out), trivial⟩
        case measure => simp [intOf]; omega
    · have hkm : k = n := by omega
      subst hkm
      go_wp2
      go_ret
      exact ⟨-1, rfl, by rw [any_none (q := q) (by rw [HL.out]; exact hall.out)]; simp, rfl⟩

/-- slices.ContainsFunc, for a test that touches nothing. -/
theorem containsInt_any (g : Nat) (lb : Array Value) (q : Int → Bool) (a : Option Addr) (n c : Nat) (l : List Int) (w : World) (eg : ∀ args w, (callFunc g args).run Try.prog w = .ok (.enter g args) w)
    (hl : l.length = n) (hn : n ≤ maxLen) (hr : Rd w a (ints l)) (hp : ∀ x, Calls Try.prog g (#[.int .i64 x] ++ lb) w fun e w' => e = .returned (.bool (q x)) ∧ w' = w) :
    Calls Try.prog 64 #[.slice a n c, .func (.func g) #[] lb] w fun e w' => e = .returned (.bool (l.any q)) ∧ w' = w := by
  go_enter Try.func64, Try.ntmps64
  go_wp2_with fail
  refine (indexInt_any g lb q a n c l w eg hl hn hr hp).mono ?_
  rintro e w1 ⟨r, rfl, hd, rfl⟩
  have HD := Lib.hid hd
  clear hd
  go_wp2
  go_ret
  exact ⟨ret_bool HD.out, rfl⟩

theorem withinFn_any (x lo hi : Int) (b1 b2 : Nat) (w : World) (h1 : w.cell? ⟨b1, 0, none⟩ = some (.int .i64 lo)) (h2 : w.cell? ⟨b2, 0, none⟩ = some (.int .i64 hi)) :
    Calls Try.prog 84 (#[.int .i64 x] ++ #[.pointer (some ⟨b1, 0, none⟩), .pointer (some ⟨b2, 0, none⟩)]) w fun e w' => e = .returned (.bool (!(decide (lo ≤ x) && decide (x ≤ hi)))) ∧ w' = w := by
  by_cases h : x < lo
  · have hd : decide (x < lo) = true := by simpa using h
    have HR : Hid ((!(decide (lo ≤ x) && decide (x ≤ hi))) = true) := Lib.hid (by rw [decide_eq_false (by omega : ¬ lo ≤ x)]; rfl)
    go_enter Try.func84, Try.ntmps84
    go_wp2
    go_ret
    exact ⟨ret_bool (by rw [HR.out]), rfl⟩
  · have hd : decide (x < lo) = false := by simpa using h
    have HR : Hid ((!(decide (lo ≤ x) && decide (x ≤ hi))) = decide (hi < x)) := Lib.hid (by
      rw [decide_eq_true (by omega : lo ≤ x), Bool.true_and]
      by_cases hx : x ≤ hi
      · rw [decide_eq_true hx, decide_eq_false (by omega : ¬ hi < x)]; rfl
      · rw [decide_eq_false hx, decide_eq_true (by omega : hi < x)]; rfl)
    have hle : decide (lo ≤ x) = true := decide_eq_true (by omega)
    go_enter Try.func84, Try.ntmps84
    go_wp2
    go_ret
    exact ⟨ret_bool (by rw [← HR.out, hle]; rfl), rfl⟩

theorem any_not_all {l : List Int} (q : Int → Bool) : l.any (fun x => !(q x)) = !(l.all q) := by
  induction l with
  | nil => rfl
  | cons a t ih => simp [ih]

set_option maxHeartbeats 400000 in
theorem implWithin_any (a : Option Addr) (n c : Nat) (l : List Int) (lo hi : Int) (w : World) (hl : l.length = n) (hn : n ≤ maxLen) (hr : Rd w a (ints l)) :
    Calls Try.prog 47 #[.slice a n c, .int .i64 lo, .int .i64 hi] w fun e w' => e = .returned (.bool (within l lo hi)) ∧ Below w.heap.size w w' := by
  have hmf : ∀ (fn : Fn) (first cap : Array Value) (w : World), (Instr.makeFunc fn first cap).run Try.prog w = .ok (.func fn first cap) w := fun _ _ _ _ => rfl
  have b0 : Below w.heap.size w ((w.alloc (.cells #[.int .i64 lo] 3)).alloc (.cells #[.int .i64 hi] 3)) := ((Below.refl _ _).alloc (Nat.le_refl _) _).alloc (by simp) _
  have k1 : Blk ((w.alloc (.cells #[.int .i64 lo] 3)).alloc (.cells #[.int .i64 hi] 3)) w.heap.size #[.int .i64 lo] 3 := (Blk.new _ _ _).alloc _
  have k2 : Blk ((w.alloc (.cells #[.int .i64 lo] 3)).alloc (.cells #[.int .i64 hi] 3)) (w.heap.size + 1) #[.int .i64 hi] 3 := by simpa using Blk.new (w.alloc (.cells #[.int .i64 lo] 3)) #[.int .i64 hi] 3
  by_cases h3 : n ≤ 3
  · have hd : decide ((n : Int) ≤ 3) = true := by simp; omega
    have HR : Hid (within l lo hi = l.all (fun x => decide (lo ≤ x) && decide (x ≤ hi))) := Lib.hid (by unfold within; rw [hl, show decide (n ≤ 3) = true by simpa using h3]; simp)
    go_enter Try.func47, Try.ntmps47
    go_wp2_with fail
    refine (containsInt_any 84 #[.pointer (some ⟨w.heap.size, 0, none⟩), .pointer (some ⟨w.heap.size + 1, 0, none⟩)] (fun x => !(decide (lo ≤ x) && decide (x ≤ hi))) a n c l _ (enters_of Try.func84 (by kernel_rfl) rfl) hl hn (hr.below b0) (fun x => withinFn_any x lo hi _ _ _ (k1.cell 0 rfl) (k2.cell 0 rfl))).mono ?_
    rintro e w1 ⟨rfl, rfl⟩
    rw [any_not_all]
    go_wp2
    go_ret
    exact ⟨ret_bool (by rw [HR.out]), b0⟩
  · have hd : decide ((n : Int) ≤ 3) = false := by simp; omega
    have HR : Hid (within l lo hi = false) := Lib.hid (within_long (by omega))
    go_enter Try.func47, Try.ntmps47
    go_wp2_with fail
    go_ret
    exact ⟨ret_bool (by rw [HR.out]), b0⟩

end Go.Proofs.Ytnobkdkfhgjeeab
