/- What operations add up to: the plain part, and the program's own text. -/
import Derived.Test.YtnobkdkfhgjeeabBal
import Derived.Test.YtnobkdkfhgjeeabLib2
import Derived.StillTailTactics
namespace Go.Proofs.Ytnobkdkfhgjeeab
open Go.RowKit

/-- What operations add up to, for thing i. -/
def sumAt (of : OpD → Int) (i : Nat) : List OpD → Int
  | [] => 0
  | o :: os => (if o.on = i then of o else 0) + sumAt of i os
def sumsAt (of : OpD → Int) (i : Nat) : List (List OpD) → Int
  | [] => 0
  | t :: ts => sumAt of i t + sumsAt of i ts
theorem sumAt_append (of : OpD → Int) (i : Nat) (a b : List OpD) : sumAt of i (a ++ b) = sumAt of i a + sumAt of i b := by
  induction a with
  | nil => simp [sumAt]
  | cons o os ih => simp only [List.cons_append, sumAt, ih]; omega
theorem sumsAt_append (of : OpD → Int) (i : Nat) (a b : List (List OpD)) : sumsAt of i (a ++ b) = sumsAt of i a + sumsAt of i b := by
  induction a with
  | nil => simp [sumsAt]
  | cons o os ih => simp only [List.cons_append, sumsAt, ih]; omega
theorem sumAt_take (of : OpD → Int) (i : Nat) (t : List OpD) (k : Nat) (hk : k < t.length) : sumAt of i (t.take (k + 1)) = sumAt of i (t.take k) + (if (t.getD k noOp).on = i then of (t.getD k noOp) else 0) := by
  have e : t.take (k + 1) = t.take k ++ [t.getD k noOp] := by rw [List.take_add_one, List.getElem?_eq_getElem hk]; simp [List.getD, hk]
  rw [e, sumAt_append]; simp [sumAt]
theorem sumsAt_take (of : OpD → Int) (i : Nat) (ts : List (List OpD)) (k : Nat) (hk : k < ts.length) : sumsAt of i (ts.take (k + 1)) = sumsAt of i (ts.take k) + sumAt of i (ts.getD k []) := by
  have e : ts.take (k + 1) = ts.take k ++ [ts.getD k []] := by rw [List.take_add_one, List.getElem?_eq_getElem hk]; simp [List.getD, hk]
  rw [e, sumsAt_append]; simp [sumsAt]
/-- The sums are small. -/
theorem sumAt_le (of : OpD → Int) (i : Nat) (t : List OpD) (h : ∀ o ∈ t, -9 ≤ of o ∧ of o ≤ 9) : -(9 * (t.length : Int)) ≤ sumAt of i t ∧ sumAt of i t ≤ 9 * (t.length : Int) := by
  induction t with
  | nil => simp [sumAt]
  | cons o os ih =>
    have h1 := h o (by simp)
    have h2 := ih (fun x hx => h x (by simp [hx]))
    simp only [sumAt, List.length_cons]
    split <;> omega
/-- What is added up, thing by thing. -/
def tallyOf (start : List Int) (of : OpD → Int) (ts : List (List OpD)) : List Int := (List.range start.length).map fun i => start.getD i 0 + sumsAt of i ts
theorem tallyOf_len (start : List Int) (of : OpD → Int) (ts : List (List OpD)) : (tallyOf start of ts).length = start.length := by simp [tallyOf]
theorem tallyOf_get (start : List Int) (of : OpD → Int) (ts : List (List OpD)) (i : Nat) (hi : i < start.length) : (tallyOf start of ts).getD i 0 = start.getD i 0 + sumsAt of i ts := by
  simp [tallyOf, List.getD, hi]
theorem tallyOf_nil (start : List Int) (of : OpD → Int) : tallyOf start of [] = start := by
  apply List.ext_getElem (by simp [tallyOf])
  intro i h1 h2
  simp [tallyOf, sumsAt, List.getD, h2]
theorem tallyOf_start (start : List Int) (of : OpD → Int) (A : List (List OpD)) : tallyOf start of (A ++ [[]]) = tallyOf start of A := by
  unfold tallyOf
  apply List.map_congr_left
  intro i _
  rw [sumsAt_append]; simp [sumsAt, sumAt]
theorem tallyOf_step {start : List Int} {of : OpD → Int} {A : List (List OpD)} {t : List OpD} {k : Nat} (hk : k < t.length) {o : OpD} (ho : t.getD k noOp = o) (h0 : 0 ≤ o.on) (h1 : o.on < start.length) :
    tallyOf start of (A ++ [t.take (k + 1)]) = (tallyOf start of (A ++ [t.take k])).set o.on.toNat ((tallyOf start of (A ++ [t.take k])).getD o.on.toNat 0 + of o) := by
  have hn : o.on.toNat < start.length := by omega
  rw [tallyOf_get _ _ _ _ hn]
  apply List.ext_getElem (by simp [tallyOf])
  intro i hi1 hi2
  have hi : i < start.length := by simpa [tallyOf] using hi1
  simp only [tallyOf, List.getElem_map, List.getElem_range, List.getElem_set]
  rw [sumsAt_append, sumsAt_append, sumsAt_append]
  simp only [sumsAt]
  rw [sumAt_take of i t k hk, ho]
  by_cases e : o.on.toNat = i
  · subst e
    rw [if_pos rfl, if_pos (by omega)]; omega
  · rw [if_neg e, if_neg (by omega)]; omega
theorem tallyOf_skip {start : List Int} {of : OpD → Int} {A : List (List OpD)} {t : List OpD} {k : Nat} (hk : k < t.length) {o : OpD} (ho : t.getD k noOp = o) (h0 : of o = 0) :
    tallyOf start of (A ++ [t.take (k + 1)]) = tallyOf start of (A ++ [t.take k]) := by
  unfold tallyOf
  apply List.map_congr_left
  intro i _
  rw [sumsAt_append, sumsAt_append]
  simp only [sumsAt]
  rw [sumAt_take of i t k hk, ho, h0]; simp
theorem tallyOf_done (start : List Int) (of : OpD → Int) (ts : List (List OpD)) (i : Nat) (hi : i < ts.length) : tallyOf start of (ts.take i ++ [(ts.getD i []).take (ts.getD i []).length]) = tallyOf start of (ts.take (i + 1)) := by
  rw [List.take_length]
  congr 1
  rw [List.take_add_one, List.getElem?_eq_getElem hi]; simp [List.getD, hi]
theorem sumsAt_le (of : OpD → Int) (i : Nat) (ts : List (List OpD)) (n : Nat) (hn : ts.length ≤ n) (h : ∀ t ∈ ts, t.length ≤ 8 ∧ ∀ o ∈ t, -9 ≤ of o ∧ of o ≤ 9) : -(72 * (n : Int)) ≤ sumsAt of i ts ∧ sumsAt of i ts ≤ 72 * (n : Int) := by
  induction ts generalizing n with
  | nil => simp [sumsAt]; omega
  | cons t ts ih =>
    cases n with
    | zero => simp at hn
    | succ n =>
      have h1 := h t (by simp)
      have h2 := sumAt_le of i t h1.2
      have h3 := ih n (by simpa using hn) (fun x hx => h x (by simp [hx]))
      simp only [sumsAt]; omega
theorem sumsAt_sub (f g : OpD → Int) (i : Nat) (ts : List (List OpD)) : sumsAt (fun o => f o - g o) i ts = sumsAt f i ts - sumsAt g i ts := by
  have h1 : ∀ t, sumAt (fun o => f o - g o) i t = sumAt f i t - sumAt g i t := by
    intro t
    induction t with
    | nil => simp [sumAt]
    | cons o os ih => simp only [sumAt, ih]; split <;> omega
  induction ts with
  | nil => simp [sumsAt]
  | cons t ts ih => simp only [sumsAt, ih, h1]; omega
theorem sumsAt_congr (f g : OpD → Int) (h : ∀ o, f o = g o) (i : Nat) (ts : List (List OpD)) : sumsAt f i ts = sumsAt g i ts := by
  have : f = g := funext h
  rw [this]
def ofKind (kind : Int) (args : Bool) (o : OpD) : Int := if o.kind = kind then (if args then o.arg else 1) else 0
theorem tallyOf_take (start : List Int) (of : OpD → Int) (ts : List (List OpD)) (i : Nat) (hi : i < start.length) : (tallyOf start of ts).take (i + 1) = (tallyOf start of ts).take i ++ [start.getD i 0 + sumsAt of i ts] := by
  rw [List.take_add_one, List.getElem?_eq_getElem (by simpa [tallyOf] using hi)]
  simp [tallyOf, List.getD, hi]

theorem valid_len {p : Pg} (h : progValid p = true) {i : Nat} (hi : i < p.threads.length) : (p.threads.getD i []).length ≤ 8 := by
  rcases Nat.lt_or_ge 8 (p.threads.getD i []).length with hc | hc
  · rw [thread_long hi hc] at h; cases h
  · exact hc
theorem tally_small {p : Pg} {start : List Int} {of : OpD → Int} (hv : progValid p = true) {i k j : Nat} (hi : i < p.threads.length) (hk : k ≤ (p.threads.getD i []).length) (hst : -9 ≤ start.getD j 0 ∧ start.getD j 0 ≤ 9) (hob : ∀ o, opValid p o = true → -9 ≤ of o ∧ of o ≤ 9) :
    -330 ≤ (tallyOf start of (p.threads.take i ++ [(p.threads.getD i []).take k])).getD j 0 ∧ (tallyOf start of (p.threads.take i ++ [(p.threads.getD i []).take k])).getD j 0 ≤ 330 := by
  by_cases hj : j < start.length
  · rw [tallyOf_get _ _ _ _ hj]
    have h4 := (valid_threads hv).2
    have hx : ∀ t ∈ p.threads.take i ++ [(p.threads.getD i []).take k], t.length ≤ 8 ∧ ∀ o ∈ t, -9 ≤ of o ∧ of o ≤ 9 := by
      intro t ht
      have key : ∀ t0 ∈ p.threads, t0.length ≤ 8 ∧ ∀ o ∈ t0, -9 ≤ of o ∧ of o ≤ 9 := by
        intro t0 h0
        obtain ⟨q, hq, rfl⟩ := List.getElem_of_mem h0
        have e : p.threads.getD q [] = p.threads[q] := by simp [List.getD, hq]
        refine ⟨by rw [← e]; exact valid_len hv hq, fun o ho => ?_⟩
        obtain ⟨r, hr, rfl⟩ := List.getElem_of_mem ho
        have := valid_op hv hq (k := r) (by rw [e]; exact hr)
        rw [e] at this
        have e2 : (p.threads[q]).getD r noOp = (p.threads[q])[r] := by simp [List.getD, hr]
        rw [e2] at this
        exact hob _ this
      rcases List.mem_append.1 ht with h | h
      · exact key t (List.mem_of_mem_take h)
      · obtain rfl : t = (p.threads.getD i []).take k := by simpa using h
        have e : p.threads.getD i [] = p.threads[i] := by simp [List.getD, hi]
        have := key (p.threads.getD i []) (by rw [e]; exact List.getElem_mem hi)
        exact ⟨by rw [List.length_take]; omega, fun o ho => this.2 o (List.mem_of_mem_take ho)⟩
    have := sumsAt_le of j _ 4 (by simp; omega) hx
    omega
  · have : (tallyOf start of (p.threads.take i ++ [(p.threads.getD i []).take k])).getD j 0 = 0 := by
      simp [List.getD, tallyOf_len, Nat.le_of_not_lt hj]
    rw [this]; omega
def ofGroupsLeft (o : OpD) : Int := if o.kind = 5 then o.arg else 0
def ofArrivalsOf (o : OpD) : Int := if o.kind = 7 then 1 else 0
def ofLettersOf (o : OpD) : Int := if o.kind = 8 then 1 else if o.kind = 9 then -1 else 0

theorem own_int {w : World} {B n c G : Nat} {xs : List Int} (h : w.ownsRow B 3 1 (.slice (some ⟨G, 0, none⟩) n c) n (ints xs)) (j : Nat) {x : Int} (hj : j < n) (hx : x = xs.getD j 0) (hl : xs.length = n) : w.cell? ⟨G, j, none⟩ = some (.int .i64 x) := by
  rw [h.cellAt j (by omega), hx]; simp [ints, List.getD, show j < xs.length by omega]

theorem implCloneInts_any (a : Option Addr) (n c : Nat) (xs : List Int) (w : World) (hl : xs.length = n) (hn : n ≤ 1099511627776) (hr : Rd w a (ints xs)) :
    Calls Try.prog 97 #[.slice a n c] w fun e w' => ∃ a' c', e = .returned (.slice a' n c') ∧ w'.ownsRow w.heap.size 3 1 (.slice a' n c') n (ints xs) ∧ Below w.heap.size w w' := by
  have H1 : Hid ((ints xs).length = n * 1) := Lib.hid (by simp [hl])
  clear hl
  go_enter Try.func97, Try.ntmps97
  go_wp2_with (at_builtin; refine wpList_append_rd rfl _ _ 23 rfl Try.underlying23 info_int rfl (by decide) rfl (owns_none _ w.heap.size _ _) rfl H1.out hr (ints_one xs) (by omega) (by decide) (Nat.le_refl _) ?_; intro a1 c1 w1 hown1 hgr1)
  go_wp2
  go_ret
  exact ⟨a1, c1, by simp, by simpa using hown1, below_of_grown hgr1 (Nat.le_refl _) (by simp [rowOf])⟩

theorem ofArrivalsOf_any (o : OpD) (w : World) :
    Calls Try.prog 63 #[.agg #[.int .i64 o.kind, .int .i64 o.on, .int .i64 o.arg]] w fun e w' => e = .returned (.int .i64 (ofArrivalsOf o)) ∧ Below w.heap.size w w' := by
  have b0 : Below w.heap.size w (w.alloc (.cells #[.int .i64 o.kind, .int .i64 o.on, .int .i64 o.arg] 44)) := (Below.refl _ _).alloc (Nat.le_refl _) _
  by_cases h0 : o.kind = 7
  · have HR : Hid (ofArrivalsOf o = 1) := Lib.hid (by unfold ofArrivalsOf; rw [if_pos h0])
    have t0 : (o.kind == 7) = true := by simpa using h0
    clear h0
    go_enter Try.func63, Try.ntmps63
    go_wp2
    go_ret
    exact ⟨ret_int HR.out.symm, b0⟩
  have t0 : (o.kind == 7) = false := by simpa using h0
  have HR : Hid (ofArrivalsOf o = 0) := Lib.hid (by unfold ofArrivalsOf; rw [if_neg h0])
  clear h0
  go_enter Try.func63, Try.ntmps63
  go_wp2
  go_ret
  exact ⟨ret_int HR.out.symm, b0⟩

theorem implTally_no (g : Nat) (v : PV) (p : Pg) (a : Option Addr) (n c : Nat) (w : World) (hr : RdP w v p) (hz : Small v p) (hv : progValid p = false) :
    Calls Try.prog 62 #[.agg #[.slice v.s v.ns v.cs, .slice v.g v.ng v.cg, .slice v.b v.nb v.cb, .slice v.r v.nr v.cr, .slice v.t v.nt v.ct], .slice a n c, .func (.func g) #[] #[]] w fun e w' => e = .returned (.slice none 0 0) ∧ Below w.heap.size w w' := by
  have hs : v.ns ≤ maxLen ∧ v.ng ≤ maxLen ∧ v.nb ≤ maxLen ∧ v.nr ≤ maxLen := by
    obtain ⟨z1, z2, z3, z4, z5, z6⟩ := hz; unfold maxLen; omega
  have zz : Hid (v.ns ≤ maxLen ∧ v.ng ≤ maxLen ∧ v.nb ≤ maxLen ∧ v.nr ≤ maxLen) := Lib.hid hs
  have HZ := Lib.hid hz
  have z5 : v.nt ≤ 1048576 := hz.lt
  have Z6 := Lib.hid hz.inn
  have ls := Lib.hid hr.ls
  have lg := Lib.hid hr.lg
  have lb := Lib.hid hr.lb
  have lr := Lib.hid hr.lr
  have lt := Lib.hid hr.lt
  clear hz
  have B0 : Below w.heap.size w (w.alloc (.cells #[.slice v.s v.ns v.cs, .slice v.g v.ng v.cg, .slice v.b v.nb v.cb, .slice v.r v.nr v.cr, .slice v.t v.nt v.ct] 26)) := (Below.refl _ _).alloc (Nat.le_refl _) _
  have k0 : Blk (w.alloc (.cells #[.slice v.s v.ns v.cs, .slice v.g v.ng v.cg, .slice v.b v.nb v.cb, .slice v.r v.nr v.cr, .slice v.t v.nt v.ct] 26)) w.heap.size #[.slice v.s v.ns v.cs, .slice v.g v.ng v.cg, .slice v.b v.nb v.cb, .slice v.r v.nr v.cr, .slice v.t v.nt v.ct] 26 := Blk.new _ _ _
  have q0 : (w.alloc (.cells #[.slice v.s v.ns v.cs, .slice v.g v.ng v.cg, .slice v.b v.nb v.cb, .slice v.r v.nr v.cr, .slice v.t v.nt v.ct] 26)).cell? ⟨w.heap.size, 0, none⟩ = some (.slice v.s v.ns v.cs) := k0.cell 0 rfl
  have q1 : (w.alloc (.cells #[.slice v.s v.ns v.cs, .slice v.g v.ng v.cg, .slice v.b v.nb v.cb, .slice v.r v.nr v.cr, .slice v.t v.nt v.ct] 26)).cell? ⟨w.heap.size, 1, none⟩ = some (.slice v.g v.ng v.cg) := k0.cell 1 rfl
  have q2 : (w.alloc (.cells #[.slice v.s v.ns v.cs, .slice v.g v.ng v.cg, .slice v.b v.nb v.cb, .slice v.r v.nr v.cr, .slice v.t v.nt v.ct] 26)).cell? ⟨w.heap.size, 2, none⟩ = some (.slice v.b v.nb v.cb) := k0.cell 2 rfl
  have q3 : (w.alloc (.cells #[.slice v.s v.ns v.cs, .slice v.g v.ng v.cg, .slice v.b v.nb v.cb, .slice v.r v.nr v.cr, .slice v.t v.nt v.ct] 26)).cell? ⟨w.heap.size, 3, none⟩ = some (.slice v.r v.nr v.cr) := k0.cell 3 rfl
  have q4 : (w.alloc (.cells #[.slice v.s v.ns v.cs, .slice v.g v.ng v.cg, .slice v.b v.nb v.cb, .slice v.r v.nr v.cr, .slice v.t v.nt v.ct] 26)).cell? ⟨w.heap.size, 4, none⟩ = some (.slice v.t v.nt v.ct) := k0.cell 4 rfl
  clear k0
  have HV := Lib.hid hv
  clear hv
  go_enter Try.func62, Try.ntmps62
  go_wp2_with fail
  refine (implProgValid_any v p _ (hr.below B0) HZ.out).mono ?_
  rintro e w1 ⟨rfl, hb⟩
  rw [HV.out]
  replace q0 := keepc hb q0
  replace q1 := keepc hb q1
  replace q2 := keepc hb q2
  replace q3 := keepc hb q3
  replace q4 := keepc hb q4
  replace B0 := B0.trans (hb.mono B0.size)
  clear hb
  go_wp2
  go_ret
  exact ⟨rfl, B0⟩

set_option maxRecDepth 100000 in
set_option maxHeartbeats 4000000 in
theorem implTally_yes (g : Nat) (of : OpD → Int) (v : PV) (p : Pg) (a : Option Addr) (n c : Nat) (start : List Int) (w : World) (eg : ∀ args w, (callFunc g args).run Try.prog w = .ok (.enter g args) w) (hr : RdP w v p) (hz : Small v p) (hv : progValid p = true)
    (hl : start.length = n) (hn : n ≤ 1048576) (ha : Rd w a (ints start)) (hst : ∀ j, -9 ≤ start.getD j 0 ∧ start.getD j 0 ≤ 9)
    (hof : ∀ o w, Calls Try.prog g #[.agg #[.int .i64 o.kind, .int .i64 o.on, .int .i64 o.arg]] w fun e w' => e = .returned (.int .i64 (of o)) ∧ Below w.heap.size w w') (hob : ∀ o, opValid p o = true → (-9 ≤ of o ∧ of o ≤ 9) ∧ (of o ≠ 0 → 0 ≤ o.on ∧ o.on < n)) :
    Calls Try.prog 62 #[.agg #[.slice v.s v.ns v.cs, .slice v.g v.ng v.cg, .slice v.b v.nb v.cb, .slice v.r v.nr v.cr, .slice v.t v.nt v.ct], .slice a n c, .func (.func g) #[] #[]] w fun e w' => ∃ a' c', e = .returned (.slice a' n c') ∧ w'.ownsRow w.heap.size 3 1 (.slice a' n c') n (ints (tallyOf start of p.threads)) ∧ Below w.heap.size w w' := by
  have hs : v.ns ≤ maxLen ∧ v.ng ≤ maxLen ∧ v.nb ≤ maxLen ∧ v.nr ≤ maxLen := by
    obtain ⟨z1, z2, z3, z4, z5, z6⟩ := hz; unfold maxLen; omega
  have zz : Hid (v.ns ≤ maxLen ∧ v.ng ≤ maxLen ∧ v.nb ≤ maxLen ∧ v.nr ≤ maxLen) := Lib.hid hs
  have HZ := Lib.hid hz
  have z5 : v.nt ≤ 1048576 := hz.lt
  have Z6 := Lib.hid hz.inn
  have ls := Lib.hid hr.ls
  have lg := Lib.hid hr.lg
  have lb := Lib.hid hr.lb
  have lr := Lib.hid hr.lr
  have lt := Lib.hid hr.lt
  clear hz
  have B0 : Below w.heap.size w (w.alloc (.cells #[.slice v.s v.ns v.cs, .slice v.g v.ng v.cg, .slice v.b v.nb v.cb, .slice v.r v.nr v.cr, .slice v.t v.nt v.ct] 26)) := (Below.refl _ _).alloc (Nat.le_refl _) _
  have k0 : Blk (w.alloc (.cells #[.slice v.s v.ns v.cs, .slice v.g v.ng v.cg, .slice v.b v.nb v.cb, .slice v.r v.nr v.cr, .slice v.t v.nt v.ct] 26)) w.heap.size #[.slice v.s v.ns v.cs, .slice v.g v.ng v.cg, .slice v.b v.nb v.cb, .slice v.r v.nr v.cr, .slice v.t v.nt v.ct] 26 := Blk.new _ _ _
  have q0 : (w.alloc (.cells #[.slice v.s v.ns v.cs, .slice v.g v.ng v.cg, .slice v.b v.nb v.cb, .slice v.r v.nr v.cr, .slice v.t v.nt v.ct] 26)).cell? ⟨w.heap.size, 0, none⟩ = some (.slice v.s v.ns v.cs) := k0.cell 0 rfl
  have q1 : (w.alloc (.cells #[.slice v.s v.ns v.cs, .slice v.g v.ng v.cg, .slice v.b v.nb v.cb, .slice v.r v.nr v.cr, .slice v.t v.nt v.ct] 26)).cell? ⟨w.heap.size, 1, none⟩ = some (.slice v.g v.ng v.cg) := k0.cell 1 rfl
  have q2 : (w.alloc (.cells #[.slice v.s v.ns v.cs, .slice v.g v.ng v.cg, .slice v.b v.nb v.cb, .slice v.r v.nr v.cr, .slice v.t v.nt v.ct] 26)).cell? ⟨w.heap.size, 2, none⟩ = some (.slice v.b v.nb v.cb) := k0.cell 2 rfl
  have q3 : (w.alloc (.cells #[.slice v.s v.ns v.cs, .slice v.g v.ng v.cg, .slice v.b v.nb v.cb, .slice v.r v.nr v.cr, .slice v.t v.nt v.ct] 26)).cell? ⟨w.heap.size, 3, none⟩ = some (.slice v.r v.nr v.cr) := k0.cell 3 rfl
  have q4 : (w.alloc (.cells #[.slice v.s v.ns v.cs, .slice v.g v.ng v.cg, .slice v.b v.nb v.cb, .slice v.r v.nr v.cr, .slice v.t v.nt v.ct] 26)).cell? ⟨w.heap.size, 4, none⟩ = some (.slice v.t v.nt v.ct) := k0.cell 4 rfl
  clear k0
  have hln := (valid_threads hv).1
  have HVO : Hid (∀ i k, i < p.threads.length → k < (p.threads.getD i []).length → opValid p ((p.threads.getD i []).getD k noOp) = true) := Lib.hid (fun i k hi hk => valid_op hv hi hk)
  have HBD : Hid (∀ i k j, i < p.threads.length → k ≤ (p.threads.getD i []).length → -330 ≤ (tallyOf start of (p.threads.take i ++ [(p.threads.getD i []).take k])).getD j 0 ∧ (tallyOf start of (p.threads.take i ++ [(p.threads.getD i []).take k])).getD j 0 ≤ 330) := Lib.hid (fun i k j hi hk => tally_small hv hi hk (hst j) (fun o ho => (hob o ho).1))
  have HSL := Lib.hid hl
  have HOB := Lib.hid hob
  have HV := Lib.hid hv
  clear hv hst hl hob
  go_enter Try.func62, Try.ntmps62
  replace ha := ha.below B0
  go_wp2_with fail
  refine (implProgValid_any v p _ (hr.below B0) HZ.out).mono ?_
  rintro e w1 ⟨rfl, hb⟩
  rw [HV.out]
  replace q0 := keepc hb q0
  replace q1 := keepc hb q1
  replace q2 := keepc hb q2
  replace q3 := keepc hb q3
  replace q4 := keepc hb q4
  replace B0 := B0.trans (hb.mono B0.size)
  replace ha := ha.below hb
  clear hb
  go_wp2_with fail
  refine (implCloneInts_any a n c start _ HSL.out (by omega) ha).mono ?_
  rintro e w2 ⟨a0, kc, rfl, hown, hb⟩
  have r0 := Lib.hid (owns_row hown)
  have d4 := keepc hb q4
  go_wp2
  obtain ⟨vs, hT⟩ := hr.rt
  obtain ⟨b1, o1, ea, g1'⟩ := (hT.below B0).thread (by omega)
  rw [ea] at q4 d4
  have HRP : Hid (∀ w', RdP w' v p → RdP w' ⟨v.s, v.ns, v.cs, v.g, v.ng, v.cg, v.b, v.nb, v.cb, v.r, v.nr, v.cr, some ⟨b1, o1, none⟩, v.nt, v.ct⟩ p) := Lib.hid (by rw [← ea]; exact fun _ h => h)
  have G1 := Lib.hid g1'
  rw [ea]
  clear g1' ea hT
  go_loopw [21] (fun i wr => ∃ i' : Nat, i' ≤ v.nt ∧ i = .int .i64 i' ∧ wr.ownsRow w1.heap.size 3 1 (.slice a0 n kc) n (ints (tallyOf start of (p.threads.take i'))) ∧ Below w1.heap.size w1 wr) (fun i _ => v.nt - (intOf i).toNat)
  case atStart => exact ⟨0, by omega, rfl, by rw [List.take_zero, tallyOf_nil]; exact hown, hb⟩
  case round =>
    obtain ⟨i, hi, rfl, hownI, hb0⟩ := hrel
    by_cases hlt : i < v.nt
    · obtain ⟨wo, hwo⟩ : ∃ wo : World, wo = wr := ⟨_, rfl⟩
      rw [← hwo] at hb0 hownI ⊢
      clear hwo wr
      have c0 := keepc hb0 q0
      have c4 := keepc hb0 q4
      obtain ⟨a2, x2, g1, r2⟩ := G1.out i (by have := lt.out; omega)
      obtain ⟨m, hm⟩ : ∃ m, m = (p.threads.getD i []).length := ⟨_, rfl⟩
      rw [← hm] at g1
      replace g1 := keepc hb0 g1
      have hmm := Z6.out i
      rw [← hm] at hmm
      have HM := Lib.hid hm
      clear hm
      go_wp2
      go_loopw [27] (fun j wk => ∃ k : Nat, k ≤ m ∧ j = .int .i64 k ∧ wk.ownsRow w1.heap.size 3 1 (.slice a0 n kc) n (ints (tallyOf start of (p.threads.take i ++ [(p.threads.getD i []).take k]))) ∧ Below w1.heap.size w1 wk) (fun j _ => m - (intOf j).toNat)
      case atStart => exact ⟨0, by omega, rfl, by rw [List.take_zero, tallyOf_start]; exact hownI, hb0⟩
      case round =>
        obtain ⟨k, hk, rfl, hownK, hbk⟩ := hrel
        by_cases hkl : k < m
        · obtain ⟨b2, o2, ea2, g2'⟩ := r2.op (by have := HM.out; omega)
          obtain ⟨g2a, g2b, g2c⟩ := g2' k (by have := HM.out; omega)
          obtain ⟨o, ho⟩ : ∃ o, o = (p.threads.getD i []).getD k noOp := ⟨_, rfl⟩
          rw [← ho] at g2a g2b g2c
          replace g2a := keepc hbk g2a
          replace g2b := keepc hbk g2b
          replace g2c := keepc hbk g2c
          have HO := Lib.hid ho
          subst ea2
          have hop := HVO.out i k (by have := lt.out; omega) (by have := HM.out; omega)
          rw [← ho] at hop
          clear g2' ho
          obtain ⟨⟨f1, f2⟩, f3⟩ := HOB.out o hop
          have F3 := Lib.hid f3
          have bA : Below wr.heap.size wr (wr.alloc (.cells #[.int .i64 o.kind, .int .i64 o.on, .int .i64 o.arg] 44)) := (Below.refl _ _).alloc (Nat.le_refl _) _
          have kA : Blk (wr.alloc (.cells #[.int .i64 o.kind, .int .i64 o.on, .int .i64 o.arg] 44)) wr.heap.size #[.int .i64 o.kind, .int .i64 o.on, .int .i64 o.arg] 44 := Blk.new _ _ _
          have e1 : (wr.alloc (.cells #[.int .i64 o.kind, .int .i64 o.on, .int .i64 o.arg] 44)).cell? ⟨wr.heap.size, 1, none⟩ = some (.int .i64 o.on) := kA.cell 1 rfl
          replace hownK := owns_below hownK bA
          have hbA := hbk.trans (bA.mono hbk.size)
          clear hop kA bA f3
          by_cases hz : of o = 0
          · have tz : (of o != 0) = false := by simpa using hz
            have HS : Hid (tallyOf start of (p.threads.take i ++ [(p.threads.getD i []).take (k + 1)]) = tallyOf start of (p.threads.take i ++ [(p.threads.getD i []).take k])) := Lib.hid (tallyOf_skip (by have := HM.out; omega) HO.out.symm hz)
            clear hz e1
            go_wp2_with (go_at_fn g; refine (hof o _).mono ?_; rintro e w3 ⟨rfl, hb3⟩)
            go_roundw
            case rel => exact ⟨k + 1, by omega, by go_num, by rw [HS.out]; exact owns_below hownK hb3, hbA.trans (hb3.mono hbA.size)⟩
            case measure => simp [intOf]; omega
          · have tz : (of o != 0) = true := by simpa using hz
            obtain ⟨on0, on1⟩ := F3.out hz
            obtain ⟨x, hx⟩ : ∃ x, x = (tallyOf start of (p.threads.take i ++ [(p.threads.getD i []).take k])).getD o.on.toNat 0 := ⟨_, rfl⟩
            have hxb := HBD.out i k o.on.toNat (by have := lt.out; omega) (by have := HM.out; omega)
            rw [← hx] at hxb
            obtain ⟨hx1, hx2⟩ := hxb
            have HS : Hid (tallyOf start of (p.threads.take i ++ [(p.threads.getD i []).take (k + 1)]) = (tallyOf start of (p.threads.take i ++ [(p.threads.getD i []).take k])).set o.on.toNat (x + of o)) := Lib.hid (by rw [hx]; exact tallyOf_step (by have := HM.out; omega) HO.out.symm on0 (by rw [HSL.out]; exact on1))
            have HL : Hid ((tallyOf start of (p.threads.take i ++ [(p.threads.getD i []).take k])).length = n) := Lib.hid (by rw [tallyOf_len, HSL.out])
            obtain ⟨L, hL⟩ : ∃ L, L = tallyOf start of (p.threads.take i ++ [(p.threads.getD i []).take k]) := ⟨_, rfl⟩
            rw [← hL] at hx hownK
            have HX := Lib.hid hx
            have HLL := Lib.hid hL
            obtain ⟨G, ea0, hG1, hG2⟩ := owns_at hownK (by omega)
            subst ea0
            clear hz hx hL
            go_wp2_with (go_at_fn g; refine (hof o _).mono ?_; rintro e w3 ⟨rfl, hb3⟩; replace e1 := keepc hb3 e1; replace hownK := owns_below hownK hb3; have hcell := own_int hownK o.on.toNat (by omega) HX.out (by rw [HLL.out]; exact HL.out); have hfz := hownK.frozenAt o.on.toNat; have R := owns_store hownK o.on.toNat (.int .i64 (x + of o)) (cs' := ints (L.set o.on.toNat (x + of o))) (by simp [ints, List.map_set]); have HR := Lib.hid R; clear R hownK)
            go_roundw
            case rel => exact ⟨k + 1, by omega, by go_num, by rw [HS.out, ← HLL.out]; exact HR.out.1, (hbA.trans (hb3.mono hbA.size)).trans (below_of_grown HR.out.2 (hbA.trans (hb3.mono hbA.size)).size (by rintro g hg; cases hg; exact hG1))⟩
            case measure => simp [intOf]; omega
        · have hkm : k = m := by omega
          subst hkm
          have HS : Hid (tallyOf start of (p.threads.take i ++ [(p.threads.getD i []).take k]) = tallyOf start of (p.threads.take (i + 1))) := Lib.hid (by rw [HM.out]; exact tallyOf_done start of p.threads i (by have := lt.out; omega))
          go_wp2
          go_roundw
          case rel => exact ⟨i + 1, by omega, by go_num, by rw [← HS.out]; exact hownK, hbk⟩
          case measure => simp [intOf]; omega
    · have hkm : i = v.nt := by omega
      subst hkm
      have HS : Hid (p.threads.take v.nt = p.threads) := Lib.hid (by rw [← lt.out, List.take_length])
      have hs1 := B0.size
      go_wp2
      go_ret
      exact ⟨_, _, rfl, by rw [HS.out] at hownI; exact owns_mono hownI hs1, B0.trans (hb0.mono B0.size)⟩

end Go.Proofs.Ytnobkdkfhgjeeab
