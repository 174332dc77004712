/- The bound that the statements lay on a program's size. -/
import Derived.Test.YtnobkdkfhgjeeabPgm
namespace Go.Proofs.Ytnobkdkfhgjeeab
open Go.RowKit

theorem szIntS_any (a : Option Addr) (n c : Nat) (left : Int) (w : World) (hn : n ≤ maxLen) (h0 : 0 ≤ left) (h1 : left ≤ 1048576) :
    Calls Try.prog 49 #[.slice a n c, .int .i64 left] w fun e w' => e = .returned (.int .i64 (if left < n then -1 else left - n)) ∧ w' = w := by
  unfold maxLen at hn
  by_cases h : left < n
  · rw [if_pos h]
    have h' : left - n < 0 := by omega
    go_enter Try.func49, Try.ntmps49
    go_wp2
    go_ret
    exact ⟨rfl, rfl⟩
  · rw [if_neg h]
    have h' : ¬ left - n < 0 := by omega
    go_enter Try.func49, Try.ntmps49
    go_wp2
    go_ret
    exact ⟨rfl, rfl⟩

theorem szIntS_far (a : Option Addr) (n c : Nat) (left : Int) (w : World) (hn : n ≤ maxLen) (h0 : 0 ≤ left) (h1 : left ≤ 1048576) (h : left < n) :
    Calls Try.prog 49 #[.slice a n c, .int .i64 left] w fun e w' => e = .returned (.int .i64 (-1)) ∧ w' = w := by
  have := szIntS_any a n c left w hn h0 h1
  rwa [if_pos h] at this
theorem szIntS_near (a : Option Addr) (n c : Nat) (left : Int) (w : World) (hn : n ≤ maxLen) (h0 : 0 ≤ left) (h1 : left ≤ 1048576) (h : ¬ left < n) :
    Calls Try.prog 49 #[.slice a n c, .int .i64 left] w fun e w' => e = .returned (.int .i64 (left - n)) ∧ w' = w := by
  have := szIntS_any a n c left w hn h0 h1
  rwa [if_neg h] at this

theorem szOpS_any (a : Option Addr) (n c : Nat) (left : Int) (w : World) (hn : n ≤ maxLen) (h0 : 0 ≤ left) (h1 : left ≤ 1048576) :
    Calls Try.prog 87 #[.slice a n c, .int .i64 left] w fun e w' => e = .returned (.int .i64 (if left < n then -1 else left - n)) ∧ w' = w := by
  unfold maxLen at hn
  by_cases h : left < n
  · rw [if_pos h]
    have h' : left - n < 0 := by omega
    go_enter Try.func87, Try.ntmps87
    go_wp2
    go_ret
    exact ⟨rfl, rfl⟩
  · rw [if_neg h]
    have h' : ¬ left - n < 0 := by omega
    go_enter Try.func87, Try.ntmps87
    go_wp2
    go_ret
    exact ⟨rfl, rfl⟩

theorem szOpS_far (a : Option Addr) (n c : Nat) (left : Int) (w : World) (hn : n ≤ maxLen) (h0 : 0 ≤ left) (h1 : left ≤ 1048576) (h : left < n) :
    Calls Try.prog 87 #[.slice a n c, .int .i64 left] w fun e w' => e = .returned (.int .i64 (-1)) ∧ w' = w := by
  have := szOpS_any a n c left w hn h0 h1
  rwa [if_pos h] at this
theorem szOpS_near (a : Option Addr) (n c : Nat) (left : Int) (w : World) (hn : n ≤ maxLen) (h0 : 0 ≤ left) (h1 : left ≤ 1048576) (h : ¬ left < n) :
    Calls Try.prog 87 #[.slice a n c, .int .i64 left] w fun e w' => e = .returned (.int .i64 (left - n)) ∧ w' = w := by
  have := szOpS_any a n c left w hn h0 h1
  rwa [if_neg h] at this

/-- How many operations the first k threads have. -/
def tlen (ts : List (List OpD)) (k : Nat) : Nat := ((ts.take k).map List.length).sum
theorem tlen_succ (ts : List (List OpD)) (k : Nat) (hk : k < ts.length) : tlen ts (k + 1) = tlen ts k + (ts.getD k []).length := by
  unfold tlen
  rw [List.take_add_one, List.getElem?_eq_getElem hk, List.map_append, List.sum_append]
  simp [List.getD, hk]
theorem tlen_le (ts : List (List OpD)) (k : Nat) : tlen ts k ≤ tlen ts ts.length := by
  unfold tlen
  have e : ts.take ts.length = ts.take k ++ ts.drop k := by rw [List.take_append_drop, List.take_length]
  rw [e, List.map_append, List.sum_append]; omega

set_option maxHeartbeats 400000 in
theorem szOpSS_any (a : Option Addr) (n c : Nat) (ts : List (List OpD)) (vs : List Value) (left : Int) (w : World) (hl : ts.length = n) (hn : n ≤ maxLen) (hin : ∀ i, (ts.getD i []).length ≤ maxLen) (h0 : 0 ≤ left) (h1 : left ≤ 1048576) (hr : RdT w a ts vs) :
    Calls Try.prog 50 #[.slice a n c, .int .i64 left] w fun e w' => e = .returned (.int .i64 (if left < n + tlen ts n then -1 else left - n - tlen ts n)) ∧ w' = w := by
  unfold maxLen at hn
  have HL := Lib.hid hl
  have HI := Lib.hid hin
  clear hl hin
  by_cases h : left < n
  · have e : (if left < (n : Int) + (tlen ts n : Nat) then (-1 : Int) else left - n - (tlen ts n : Nat)) = -1 := if_pos (by omega)
    rw [e]
    have h' : left - n < 0 := by omega
    go_enter Try.func50, Try.ntmps50
    go_wp2
    go_ret
    exact ⟨rfl, rfl⟩
  · have h' : ¬ left - n < 0 := by omega
    generalize hE : (if left < (n : Int) + (tlen ts n : Nat) then (-1 : Int) else left - n - (tlen ts n : Nat)) = E
    have HE := Lib.hid hE
    clear hE
    go_enter Try.func50, Try.ntmps50
    go_wp2
    go_loop [1, 5] (fun v i => ∃ (k t : Nat), k ≤ n ∧ i = .int .i64 k ∧ Hid (t = tlen ts k) ∧ v = .int .i64 (left - n - t) ∧ 0 ≤ left - n - t) (fun _ i => n - (intOf i).toNat)
    case atStart => exact ⟨0, 0, by omega, rfl, Lib.hid rfl, by simp, by omega⟩
    case round =>
      obtain ⟨k, t, hk, rfl, ht, rfl, hpos⟩ := hrel
      by_cases hlt : k < n
      · obtain ⟨b1, o1, rfl, g1⟩ := hr.thread (by have := HL.out; omega)
        obtain ⟨a', c', gc, _⟩ := g1 k (by have := HL.out; omega)
        obtain ⟨m, hm⟩ : ∃ m, m = (ts.getD k []).length := ⟨_, rfl⟩
        rw [← hm] at gc
        have hmm : m ≤ maxLen := by rw [hm]; exact HI.out k
        have HM := Lib.hid hm
        clear g1 hm
        by_cases hf : left - n - t < m
        · go_wp2_with fail
          refine (szOpS_far a' m c' _ _ hmm (by omega) (by omega) hf).mono ?_
          rintro e w1 ⟨rfl, rfl⟩
          go_wp2
          go_ret
          refine ⟨ret_int ?_, rfl⟩
          rw [← HE.out, if_pos]
          have h2 := tlen_succ ts k (by have := HL.out; omega)
          have h3 := tlen_le ts (k + 1)
          rw [HL.out] at h3
          have := HM.out
          have := ht.out
          omega
        · go_wp2_with fail
          refine (szOpS_near a' m c' _ _ hmm (by omega) (by omega) (by omega)).mono ?_
          rintro e w1 ⟨rfl, rfl⟩
          have hf' : ¬ left - n - t - m < 0 := by omega
          go_wp2
          go_round
          case rel => exact ⟨k + 1, t + m, by omega, by go_num, Lib.hid (by rw [tlen_succ ts k (by have := HL.out; omega), ← HM.out, ← ht.out]), by go_num, by omega⟩
          case measure => simp [intOf]; omega
      · have hkn : k = n := by omega
        subst hkn
        go_wp2
        go_ret
        refine ⟨ret_int ?_, rfl⟩
        rw [← HE.out, if_neg (by have := ht.out; omega), ht.out]


/-- The lengths of a program's slices are lengths. -/
structure Lens (v : PV) (p : Pg) : Prop where
  ls : v.ns ≤ maxLen
  lg : v.ng ≤ maxLen
  lb : v.nb ≤ maxLen
  lr : v.nr ≤ maxLen
  lt : v.nt ≤ maxLen
  inn : ∀ i, (p.threads.getD i []).length ≤ maxLen

/-- A program's size, as the statements count it. -/
def total (v : PV) (p : Pg) : Nat := v.ns + v.ng + v.nb + v.nr + v.nt + tlen p.threads v.nt

theorem szOpSS_far (a : Option Addr) (n c : Nat) (ts : List (List OpD)) (vs : List Value) (left : Int) (w : World) (hl : ts.length = n) (hn : n ≤ maxLen) (hin : ∀ i, (ts.getD i []).length ≤ maxLen) (h0 : 0 ≤ left) (h1 : left ≤ 1048576) (h : left < n + (tlen ts n : Nat)) (hr : RdT w a ts vs) :
    Calls Try.prog 50 #[.slice a n c, .int .i64 left] w fun e w' => e = .returned (.int .i64 (-1)) ∧ w' = w := by
  have := szOpSS_any a n c ts vs left w hl hn hin h0 h1 hr
  rwa [if_pos h] at this
theorem szOpSS_near (a : Option Addr) (n c : Nat) (ts : List (List OpD)) (vs : List Value) (left : Int) (w : World) (hl : ts.length = n) (hn : n ≤ maxLen) (hin : ∀ i, (ts.getD i []).length ≤ maxLen) (h0 : 0 ≤ left) (h1 : left ≤ 1048576) (h : ¬ left < n + (tlen ts n : Nat)) (hr : RdT w a ts vs) :
    Calls Try.prog 50 #[.slice a n c, .int .i64 left] w fun e w' => e = .returned (.int .i64 (left - n - (tlen ts n : Nat))) ∧ w' = w := by
  have := szOpSS_any a n c ts vs left w hl hn hin h0 h1 hr
  rwa [if_neg h] at this

set_option maxHeartbeats 400000 in
theorem szProg_far (v : PV) (p : Pg) (w : World) (hr : RdP w v p) (hz : Lens v p) (h : 1048576 < total v p) :
    Calls Try.prog 16 #[.agg #[.slice v.s v.ns v.cs, .slice v.g v.ng v.cg, .slice v.b v.nb v.cb, .slice v.r v.nr v.cr, .slice v.t v.nt v.ct], .int .i64 1048576] w fun e w' => e = .returned (.int .i64 (-1)) ∧ Below w.heap.size w w' := by
  unfold total at h
  obtain ⟨vs, hvs⟩ := hr.rt
  have HT := Lib.hid hr.lt
  by_cases c0 : 1048576 < v.ns
  · go_enter Try.func16, Try.ntmps16
    go_wp2_with fail
    refine (szIntS_far v.s v.ns v.cs _ _ hz.ls (by omega) (by omega) (by omega)).mono ?_
    rintro e w0 ⟨rfl, rfl⟩
    go_wp2
    go_ret
    exact ⟨rfl, (Below.refl _ _).alloc (Nat.le_refl _) _⟩
  by_cases c1 : 1048576 - v.ns < v.ng
  · have k0 : ¬ (1048576 - (v.ns : Nat) : Int) < 0 := by omega
    go_enter Try.func16, Try.ntmps16
    go_wp2_with fail
    refine (szIntS_near v.s v.ns v.cs _ _ hz.ls (by omega) (by omega) (by omega)).mono ?_
    rintro e w0 ⟨rfl, rfl⟩
    go_wp2_with fail
    refine (szIntS_far v.g v.ng v.cg _ _ hz.lg (by omega) (by omega) (by omega)).mono ?_
    rintro e w1 ⟨rfl, rfl⟩
    go_wp2
    go_ret
    exact ⟨rfl, (Below.refl _ _).alloc (Nat.le_refl _) _⟩
  by_cases c2 : 1048576 - v.ns - v.ng < v.nb
  · have k0 : ¬ (1048576 - (v.ns : Nat) : Int) < 0 := by omega
    have k1 : ¬ (1048576 - (v.ns : Nat) - (v.ng : Nat) : Int) < 0 := by omega
    go_enter Try.func16, Try.ntmps16
    go_wp2_with fail
    refine (szIntS_near v.s v.ns v.cs _ _ hz.ls (by omega) (by omega) (by omega)).mono ?_
    rintro e w0 ⟨rfl, rfl⟩
    go_wp2_with fail
    refine (szIntS_near v.g v.ng v.cg _ _ hz.lg (by omega) (by omega) (by omega)).mono ?_
    rintro e w1 ⟨rfl, rfl⟩
    go_wp2_with fail
    refine (szIntS_far v.b v.nb v.cb _ _ hz.lb (by omega) (by omega) (by omega)).mono ?_
    rintro e w2 ⟨rfl, rfl⟩
    go_wp2
    go_ret
    exact ⟨rfl, (Below.refl _ _).alloc (Nat.le_refl _) _⟩
  by_cases c3 : 1048576 - v.ns - v.ng - v.nb < v.nr
  · have k0 : ¬ (1048576 - (v.ns : Nat) : Int) < 0 := by omega
    have k1 : ¬ (1048576 - (v.ns : Nat) - (v.ng : Nat) : Int) < 0 := by omega
    have k2 : ¬ (1048576 - (v.ns : Nat) - (v.ng : Nat) - (v.nb : Nat) : Int) < 0 := by omega
    go_enter Try.func16, Try.ntmps16
    go_wp2_with fail
    refine (szIntS_near v.s v.ns v.cs _ _ hz.ls (by omega) (by omega) (by omega)).mono ?_
    rintro e w0 ⟨rfl, rfl⟩
    go_wp2_with fail
    refine (szIntS_near v.g v.ng v.cg _ _ hz.lg (by omega) (by omega) (by omega)).mono ?_
    rintro e w1 ⟨rfl, rfl⟩
    go_wp2_with fail
    refine (szIntS_near v.b v.nb v.cb _ _ hz.lb (by omega) (by omega) (by omega)).mono ?_
    rintro e w2 ⟨rfl, rfl⟩
    go_wp2_with fail
    refine (szIntS_far v.r v.nr v.cr _ _ hz.lr (by omega) (by omega) (by omega)).mono ?_
    rintro e w3 ⟨rfl, rfl⟩
    go_wp2
    go_ret
    exact ⟨rfl, (Below.refl _ _).alloc (Nat.le_refl _) _⟩
  · have k0 : ¬ (1048576 - (v.ns : Nat) : Int) < 0 := by omega
    have k1 : ¬ (1048576 - (v.ns : Nat) - (v.ng : Nat) : Int) < 0 := by omega
    have k2 : ¬ (1048576 - (v.ns : Nat) - (v.ng : Nat) - (v.nb : Nat) : Int) < 0 := by omega
    have k3 : ¬ (1048576 - (v.ns : Nat) - (v.ng : Nat) - (v.nb : Nat) - (v.nr : Nat) : Int) < 0 := by omega
    go_enter Try.func16, Try.ntmps16
    go_wp2_with fail
    refine (szIntS_near v.s v.ns v.cs _ _ hz.ls (by omega) (by omega) (by omega)).mono ?_
    rintro e w0 ⟨rfl, rfl⟩
    go_wp2_with fail
    refine (szIntS_near v.g v.ng v.cg _ _ hz.lg (by omega) (by omega) (by omega)).mono ?_
    rintro e w1 ⟨rfl, rfl⟩
    go_wp2_with fail
    refine (szIntS_near v.b v.nb v.cb _ _ hz.lb (by omega) (by omega) (by omega)).mono ?_
    rintro e w2 ⟨rfl, rfl⟩
    go_wp2_with fail
    refine (szIntS_near v.r v.nr v.cr _ _ hz.lr (by omega) (by omega) (by omega)).mono ?_
    rintro e w3 ⟨rfl, rfl⟩
    go_wp2_with fail
    refine (szOpSS_far v.t v.nt v.ct p.threads vs _ _ HT.out hz.lt hz.inn (by omega) (by omega) (by omega) (hvs.below ((Below.refl _ _).alloc (Nat.le_refl _) _))).mono ?_
    rintro e w4 ⟨rfl, rfl⟩
    go_wp2
    go_ret
    exact ⟨rfl, (Below.refl _ _).alloc (Nat.le_refl _) _⟩

set_option maxHeartbeats 400000 in
theorem szProg_near (v : PV) (p : Pg) (w : World) (hr : RdP w v p) (hz : Lens v p) (h : ¬ 1048576 < total v p) :
    Calls Try.prog 16 #[.agg #[.slice v.s v.ns v.cs, .slice v.g v.ng v.cg, .slice v.b v.nb v.cb, .slice v.r v.nr v.cr, .slice v.t v.nt v.ct], .int .i64 1048576] w fun e w' => ∃ l : Int, e = .returned (.int .i64 l) ∧ 0 ≤ l ∧ Below w.heap.size w w' := by
  unfold total at h
  obtain ⟨vs, hvs⟩ := hr.rt
  have HT := Lib.hid hr.lt
  have k0 : ¬ (1048576 - (v.ns : Nat) : Int) < 0 := by omega
  have k1 : ¬ (1048576 - (v.ns : Nat) - (v.ng : Nat) : Int) < 0 := by omega
  have k2 : ¬ (1048576 - (v.ns : Nat) - (v.ng : Nat) - (v.nb : Nat) : Int) < 0 := by omega
  have k3 : ¬ (1048576 - (v.ns : Nat) - (v.ng : Nat) - (v.nb : Nat) - (v.nr : Nat) : Int) < 0 := by omega
  have k4 : ¬ (1048576 - (v.ns : Nat) - (v.ng : Nat) - (v.nb : Nat) - (v.nr : Nat) - (v.nt : Nat) - (tlen p.threads v.nt : Nat) : Int) < 0 := by omega
  go_enter Try.func16, Try.ntmps16
  go_wp2_with fail
  refine (szIntS_near v.s v.ns v.cs _ _ hz.ls (by omega) (by omega) (by omega)).mono ?_
  rintro e w0 ⟨rfl, rfl⟩
  go_wp2_with fail
  refine (szIntS_near v.g v.ng v.cg _ _ hz.lg (by omega) (by omega) (by omega)).mono ?_
  rintro e w1 ⟨rfl, rfl⟩
  go_wp2_with fail
  refine (szIntS_near v.b v.nb v.cb _ _ hz.lb (by omega) (by omega) (by omega)).mono ?_
  rintro e w2 ⟨rfl, rfl⟩
  go_wp2_with fail
  refine (szIntS_near v.r v.nr v.cr _ _ hz.lr (by omega) (by omega) (by omega)).mono ?_
  rintro e w3 ⟨rfl, rfl⟩
  go_wp2_with fail
  refine (szOpSS_near v.t v.nt v.ct p.threads vs _ _ HT.out hz.lt hz.inn (by omega) (by omega) (by omega) (hvs.below ((Below.refl _ _).alloc (Nat.le_refl _) _))).mono ?_
  rintro e w4 ⟨rfl, rfl⟩
  go_wp2
  go_ret
  exact ⟨_, rfl, by omega, (Below.refl _ _).alloc (Nat.le_refl _) _⟩

end Go.Proofs.Ytnobkdkfhgjeeab
