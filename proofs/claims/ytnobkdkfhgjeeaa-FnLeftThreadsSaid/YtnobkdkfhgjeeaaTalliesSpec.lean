/- GroupsLeft, ArrivalsOf, LettersOf: the reference's text. -/
import Derived.Test.YtnobkdkfhgjeeaaBaseE
import Derived.Test.YtnobkdkfhgjeeaaBaseA
import Derived.Deep.RegionHeld3
namespace Go.Proofs.Ytnobkdkfhgjeeaa
open Go.RowKit

theorem take_snoc_int {xs : List Int} {k : Nat} {x : Int} (hk : k < xs.length) (hx : xs.getD k 0 = x) : ints (xs.take k) ++ [.int .i64 x] = ints (xs.take (k + 1)) := by
  rw [take_succ_int xs k hk, hx]; simp [ints]
theorem ofGroups_eq (o : OpD) : ofGroupsLeft o = ofKind 5 true o := rfl
theorem ofArrivals_eq (o : OpD) : ofArrivalsOf o = ofKind 7 false o := rfl
theorem ofLetters_eq (o : OpD) : ofLettersOf o = ofKind 8 false o - ofKind 9 false o := by
  unfold ofLettersOf ofKind
  by_cases h8 : o.kind = 8
  · simp [h8]
  · by_cases h9 : o.kind = 9
    · simp [h9]
    · simp [h8, h9]
theorem obK {p : Pg} (kind : Int) (o : OpD) (_ : opValid p o = true) : -9 ≤ ofKind kind false o ∧ ofKind kind false o ≤ 9 := by
  unfold ofKind; split <;> simp
theorem obG {p : Pg} (o : OpD) (ho : opValid p o = true) : -9 ≤ ofKind 5 true o ∧ ofKind 5 true o ≤ 9 := (obGroupsLeft o ho).1
theorem sums_all {p : Pg} {of : OpD → Int} (hv : progValid p = true) (hob : ∀ o, opValid p o = true → -9 ≤ of o ∧ of o ≤ 9) (j : Nat) : -330 ≤ sumsAt of j p.threads ∧ sumsAt of j p.threads ≤ 330 := by
  have h1 := (valid_threads hv).1
  have e := sums_small (j := j) hv (i := p.threads.length - 1) (k := (p.threads.getD (p.threads.length - 1) []).length) (by omega) (Nat.le_refl _) hob
  rw [sumsAt_done _ _ _ _ (by omega), show p.threads.length - 1 + 1 = p.threads.length by omega, List.take_length] at e
  exact e

set_option maxRecDepth 100000 in
set_option maxHeartbeats 4000000 in
theorem specArrivalsOf_any (n : Nat) (v : PV) (p : Pg) (w : World) (hn : (arrivalsOf p).length = n) (hr : RdP w v p) (hz : Small v p) :
    Calls Try.prog 22 #[.agg #[.slice v.s v.ns v.cs, .slice v.g v.ng v.cg, .slice v.b v.nb v.cb, .slice v.r v.nr v.cr, .slice v.t v.nt v.ct]] w fun e w' => ∃ a' c', e = .returned (.slice a' n c') ∧ w'.ownsRow w.heap.size 3 1 (.slice a' n c') n (ints (arrivalsOf p)) ∧ Below w.heap.size w w' := by
  have hs : v.ns ≤ maxLen ∧ v.ng ≤ maxLen ∧ v.nb ≤ maxLen ∧ v.nr ≤ maxLen := by
    obtain ⟨z1, z2, z3, z4, z5, z6⟩ := hz; unfold maxLen; omega
  have zz : Hid (v.ns ≤ maxLen ∧ v.ng ≤ maxLen ∧ v.nb ≤ maxLen ∧ v.nr ≤ maxLen) := Lib.hid hs
  have HZ := Lib.hid hz
  have z5 : v.nt ≤ 1048576 := hz.lt
  have Z6 := Lib.hid hz.inn
  have ls := Lib.hid hr.ls
  have lg := Lib.hid hr.lg
  have lb := Lib.hid hr.lb
  have lr := Lib.hid hr.lr
  have lt := Lib.hid hr.lt
  clear hz
  have B0 : Below w.heap.size w (w.alloc (.cells #[.slice v.s v.ns v.cs, .slice v.g v.ng v.cg, .slice v.b v.nb v.cb, .slice v.r v.nr v.cr, .slice v.t v.nt v.ct] 30)) := (Below.refl _ _).alloc (Nat.le_refl _) _
  have k0 : Blk (w.alloc (.cells #[.slice v.s v.ns v.cs, .slice v.g v.ng v.cg, .slice v.b v.nb v.cb, .slice v.r v.nr v.cr, .slice v.t v.nt v.ct] 30)) w.heap.size #[.slice v.s v.ns v.cs, .slice v.g v.ng v.cg, .slice v.b v.nb v.cb, .slice v.r v.nr v.cr, .slice v.t v.nt v.ct] 30 := Blk.new _ _ _
  have q0 : (w.alloc (.cells #[.slice v.s v.ns v.cs, .slice v.g v.ng v.cg, .slice v.b v.nb v.cb, .slice v.r v.nr v.cr, .slice v.t v.nt v.ct] 30)).cell? ⟨w.heap.size, 0, none⟩ = some (.slice v.s v.ns v.cs) := k0.cell 0 rfl
  have q1 : (w.alloc (.cells #[.slice v.s v.ns v.cs, .slice v.g v.ng v.cg, .slice v.b v.nb v.cb, .slice v.r v.nr v.cr, .slice v.t v.nt v.ct] 30)).cell? ⟨w.heap.size, 1, none⟩ = some (.slice v.g v.ng v.cg) := k0.cell 1 rfl
  have q2 : (w.alloc (.cells #[.slice v.s v.ns v.cs, .slice v.g v.ng v.cg, .slice v.b v.nb v.cb, .slice v.r v.nr v.cr, .slice v.t v.nt v.ct] 30)).cell? ⟨w.heap.size, 2, none⟩ = some (.slice v.b v.nb v.cb) := k0.cell 2 rfl
  have q3 : (w.alloc (.cells #[.slice v.s v.ns v.cs, .slice v.g v.ng v.cg, .slice v.b v.nb v.cb, .slice v.r v.nr v.cr, .slice v.t v.nt v.ct] 30)).cell? ⟨w.heap.size, 3, none⟩ = some (.slice v.r v.nr v.cr) := k0.cell 3 rfl
  have q4 : (w.alloc (.cells #[.slice v.s v.ns v.cs, .slice v.g v.ng v.cg, .slice v.b v.nb v.cb, .slice v.r v.nr v.cr, .slice v.t v.nt v.ct] 30)).cell? ⟨w.heap.size, 4, none⟩ = some (.slice v.t v.nt v.ct) := k0.cell 4 rfl
  clear k0
  have hng : v.nb ≤ 1048576 := HZ.out.lb
  rcases Bool.eq_false_or_eq_true (progValid p) with hv | hv
  · have HB : Hid (arrivalsOf p = tallyOf (List.replicate p.barriers.length 0) ofArrivalsOf p.threads) := Lib.hid (by unfold arrivalsOf; rw [if_pos hv])
    obtain rfl : n = v.nb := by rw [← hn, HB.out, tallyOf_len, List.length_replicate, hr.lb]
    obtain ⟨L, hL⟩ : ∃ L, L = arrivalsOf p := ⟨_, rfl⟩
    rw [← hL] at hn ⊢
    have HN := Lib.hid hn
    have HL := Lib.hid hL
    have HG : Hid (∀ k, k < v.nb → L.getD k 0 = sumsAt (ofKind 7 false) k p.threads) := Lib.hid (fun k hk => by rw [hL, HB.out, tallyOf_get _ _ _ _ (by rw [List.length_replicate, hr.lb]; exact hk), sumsAt_congr _ _ ofArrivals_eq]; simp [List.getD, hr.lb, hk])
    have HV := Lib.hid hv
    clear hv hn hL
    go_enter Try.func22, Try.ntmps22
    go_wp2
    obtain ⟨W0, hW0⟩ : ∃ W0 : World, W0 = (w.alloc (.cells #[.slice v.s v.ns v.cs, .slice v.g v.ng v.cg, .slice v.b v.nb v.cb, .slice v.r v.nr v.cr, .slice v.t v.nt v.ct] 30)) := ⟨_, rfl⟩
    have hw0s : W0.heap.size = w.heap.size + 1 := by rw [hW0]; simp
    have HW0 := Lib.hid hw0s
    clear hw0s
    rw [← hW0] at B0 q0 q1 q2 q3 q4 ⊢
    clear hW0
    have hs0 := B0.size
    go_loopw [3, 4] (fun ov i wr => ∃ (k : Nat) (a' : Option Addr) (c' : Nat), k ≤ v.nb ∧ i = .int .i64 k ∧ ov = .slice a' k c' ∧ wr.ownsRow W0.heap.size 3 1 (.slice a' k c') k (ints (L.take k)) ∧ Below W0.heap.size W0 wr) (fun _ i _ => v.nb - (intOf i).toNat)
    case atStart => exact ⟨0, _, _, by omega, rfl, rfl, by rw [← HW0.out]; simpa [ints] using owns_empty W0 3 1, (Below.refl _ _).alloc (Nat.le_refl _) _⟩
    case round =>
      obtain ⟨k, a', c', hk, rfl, rfl, hown, hb0⟩ := hrel
      have c0 := keepc hb0 q0
      have c1 := keepc hb0 q1
      have c2 := keepc hb0 q2
      have c3 := keepc hb0 q3
      have c4 := keepc hb0 q4
      have B1 := B0.trans (hb0.mono B0.size)
      by_cases hlt : k < v.nb
      · have d0 : decide ((k : Int) < v.nb) = true := decide_eq_true (by omega)
        go_wp2_with fail
        refine (specProgValid_any v p _ (hr.below B1) HZ.out).mono ?_
        rintro e w2 ⟨rfl, hb⟩
        rw [HV.out]
        replace c0 := keepc hb c0
        replace c1 := keepc hb c1
        replace c2 := keepc hb c2
        replace c3 := keepc hb c3
        replace c4 := keepc hb c4
        replace B1 := B1.trans (hb.mono B1.size)
        replace hb0 := hb0.trans (hb.mono hb0.size)
        replace hown := owns_below hown hb
        clear hb
        obtain ⟨x, hx⟩ : ∃ x, x = L.getD k 0 := ⟨_, rfl⟩
        have HX : Hid (ints (L.take k) ++ [.int .i64 x] = ints (L.take (k + 1))) := Lib.hid (take_snoc_int (by rw [HN.out]; exact hlt) hx.symm)
        rw [HG.out k hlt] at hx
        subst hx
        have hS1 := hb0.size
        go_wp2_with fail
        refine (l10Sum_false v p 7 k _ (hr.below B1) HZ.out HV.out (obK 7)).mono ?_
        rintro e w3 ⟨rfl, hb⟩
        replace hb0 := hb0.trans (hb.mono hb0.size)
        replace hown := owns_below hown hb
        have hS := hb0.size
        clear hb
        go_wp2_with (at_builtin; refine wpList_append_sl rfl _ _ 22 rfl Try.underlying22 info_int rfl (by decide) rfl hown rfl rfl rfl (by simp [Value.oneCell']) (by omega) (by decide) hS ?_; intro a1 c1 w5 hown1 hgr1)
        go_wp2
        go_roundw
        case rel => exact ⟨k + 1, a1, c1, by omega, by go_num, rfl, by rw [← HX.out]; exact hown1, hb0.trans (below_of_grown hgr1 hb0.size (fun j hj => (owns_row hown j hj).1))⟩
        case measure => simp [intOf]; omega
      · have d0 : decide ((k : Int) < v.nb) = false := decide_eq_false (by omega)
        have hkm : k = v.nb := by omega
        subst hkm
        have HT : Hid (L.take v.nb = L) := Lib.hid (by rw [← HN.out, List.take_length])
        rw [HT.out] at hown
        go_wp2
        go_ret
        exact ⟨_, _, rfl, owns_mono hown hs0, B1⟩
  · have HB : Hid (arrivalsOf p = []) := Lib.hid (by unfold arrivalsOf; rw [if_neg (by rw [hv]; simp)])
    rw [HB.out] at hn ⊢
    obtain rfl : n = 0 := hn.symm
    have HV := Lib.hid hv
    clear hv
    go_enter Try.func22, Try.ntmps22
    go_wp2
    obtain ⟨W0, hW0⟩ : ∃ W0 : World, W0 = (w.alloc (.cells #[.slice v.s v.ns v.cs, .slice v.g v.ng v.cg, .slice v.b v.nb v.cb, .slice v.r v.nr v.cr, .slice v.t v.nt v.ct] 30)) := ⟨_, rfl⟩
    have hw0s : W0.heap.size = w.heap.size + 1 := by rw [hW0]; simp
    have HW0 := Lib.hid hw0s
    clear hw0s
    rw [← hW0] at B0 q0 q1 q2 q3 q4 ⊢
    clear hW0
    have o0 := owns_mono (owns_empty W0 3 1) B0.size
    rw [HW0.out] at o0
    have b0' : Below W0.heap.size W0 (W0.alloc (.cells #[] 3)) := (Below.refl _ _).alloc (Nat.le_refl _) _
    obtain ⟨W1, hW1⟩ : ∃ W1 : World, W1 = W0.alloc (.cells #[] 3) := ⟨_, rfl⟩
    rw [← hW1] at o0 b0' ⊢
    clear hW1
    replace q0 := keepc b0' q0
    replace q1 := keepc b0' q1
    replace q2 := keepc b0' q2
    replace q3 := keepc b0' q3
    replace q4 := keepc b0' q4
    replace B0 := B0.trans (b0'.mono B0.size)
    clear b0'
    go_loopw [3, 4] (fun ov i wr => i = .int .i64 0 ∧ ov = .slice (some ⟨w.heap.size + 1, 0, none⟩) 0 0 ∧ wr = W1) (fun _ i _ => 0)
    case atStart => exact ⟨rfl, rfl, rfl⟩
    case round =>
      obtain ⟨rfl, rfl, rfl⟩ := hrel
      by_cases h0 : 0 < v.nb
      · have d0 : decide ((0 : Int) < v.nb) = true := decide_eq_true (by omega)
        go_wp2_with fail
        refine (specProgValid_any v p _ (hr.below B0) HZ.out).mono ?_
        rintro e w2 ⟨rfl, hb⟩
        rw [HV.out]
        replace o0 := owns_below o0 hb
        go_wp2
        go_ret
        exact ⟨_, _, rfl, o0, B0.trans (hb.mono B0.size)⟩
      · have d0 : decide ((0 : Int) < v.nb) = false := decide_eq_false (by omega)
        go_wp2
        go_ret
        exact ⟨_, _, rfl, o0, B0⟩

set_option maxRecDepth 100000 in
set_option maxHeartbeats 4000000 in
theorem specGroupsLeft_any (n : Nat) (v : PV) (p : Pg) (w : World) (hn : (groupsLeft p).length = n) (hr : RdP w v p) (hz : Small v p) :
    Calls Try.prog 28 #[.agg #[.slice v.s v.ns v.cs, .slice v.g v.ng v.cg, .slice v.b v.nb v.cb, .slice v.r v.nr v.cr, .slice v.t v.nt v.ct]] w fun e w' => ∃ a' c', e = .returned (.slice a' n c') ∧ w'.ownsRow w.heap.size 3 1 (.slice a' n c') n (ints (groupsLeft p)) ∧ Below w.heap.size w w' := by
  have hs : v.ns ≤ maxLen ∧ v.ng ≤ maxLen ∧ v.nb ≤ maxLen ∧ v.nr ≤ maxLen := by
    obtain ⟨z1, z2, z3, z4, z5, z6⟩ := hz; unfold maxLen; omega
  have zz : Hid (v.ns ≤ maxLen ∧ v.ng ≤ maxLen ∧ v.nb ≤ maxLen ∧ v.nr ≤ maxLen) := Lib.hid hs
  have HZ := Lib.hid hz
  have z5 : v.nt ≤ 1048576 := hz.lt
  have Z6 := Lib.hid hz.inn
  have ls := Lib.hid hr.ls
  have lg := Lib.hid hr.lg
  have lb := Lib.hid hr.lb
  have lr := Lib.hid hr.lr
  have lt := Lib.hid hr.lt
  clear hz
  have B0 : Below w.heap.size w (w.alloc (.cells #[.slice v.s v.ns v.cs, .slice v.g v.ng v.cg, .slice v.b v.nb v.cb, .slice v.r v.nr v.cr, .slice v.t v.nt v.ct] 30)) := (Below.refl _ _).alloc (Nat.le_refl _) _
  have k0 : Blk (w.alloc (.cells #[.slice v.s v.ns v.cs, .slice v.g v.ng v.cg, .slice v.b v.nb v.cb, .slice v.r v.nr v.cr, .slice v.t v.nt v.ct] 30)) w.heap.size #[.slice v.s v.ns v.cs, .slice v.g v.ng v.cg, .slice v.b v.nb v.cb, .slice v.r v.nr v.cr, .slice v.t v.nt v.ct] 30 := Blk.new _ _ _
  have q0 : (w.alloc (.cells #[.slice v.s v.ns v.cs, .slice v.g v.ng v.cg, .slice v.b v.nb v.cb, .slice v.r v.nr v.cr, .slice v.t v.nt v.ct] 30)).cell? ⟨w.heap.size, 0, none⟩ = some (.slice v.s v.ns v.cs) := k0.cell 0 rfl
  have q1 : (w.alloc (.cells #[.slice v.s v.ns v.cs, .slice v.g v.ng v.cg, .slice v.b v.nb v.cb, .slice v.r v.nr v.cr, .slice v.t v.nt v.ct] 30)).cell? ⟨w.heap.size, 1, none⟩ = some (.slice v.g v.ng v.cg) := k0.cell 1 rfl
  have q2 : (w.alloc (.cells #[.slice v.s v.ns v.cs, .slice v.g v.ng v.cg, .slice v.b v.nb v.cb, .slice v.r v.nr v.cr, .slice v.t v.nt v.ct] 30)).cell? ⟨w.heap.size, 2, none⟩ = some (.slice v.b v.nb v.cb) := k0.cell 2 rfl
  have q3 : (w.alloc (.cells #[.slice v.s v.ns v.cs, .slice v.g v.ng v.cg, .slice v.b v.nb v.cb, .slice v.r v.nr v.cr, .slice v.t v.nt v.ct] 30)).cell? ⟨w.heap.size, 3, none⟩ = some (.slice v.r v.nr v.cr) := k0.cell 3 rfl
  have q4 : (w.alloc (.cells #[.slice v.s v.ns v.cs, .slice v.g v.ng v.cg, .slice v.b v.nb v.cb, .slice v.r v.nr v.cr, .slice v.t v.nt v.ct] 30)).cell? ⟨w.heap.size, 4, none⟩ = some (.slice v.t v.nt v.ct) := k0.cell 4 rfl
  clear k0
  have hng : v.ng ≤ 1048576 := HZ.out.lg
  rcases Bool.eq_false_or_eq_true (progValid p) with hv | hv
  · have HB : Hid (groupsLeft p = tallyOf p.groups ofGroupsLeft p.threads) := Lib.hid (by unfold groupsLeft; rw [if_pos hv])
    obtain rfl : n = v.ng := by rw [← hn, HB.out, tallyOf_len, hr.lg]
    obtain ⟨L, hL⟩ : ∃ L, L = groupsLeft p := ⟨_, rfl⟩
    rw [← hL] at hn ⊢
    have HN := Lib.hid hn
    have HL := Lib.hid hL
    have HG : Hid (∀ k, k < v.ng → L.getD k 0 = p.groups.getD k 0 + sumsAt (ofKind 5 true) k p.threads) := Lib.hid (fun k hk => by rw [hL, HB.out, tallyOf_get _ _ _ _ (by rw [hr.lg]; exact hk), sumsAt_congr _ _ ofGroups_eq])
    have HS1 : Hid (∀ k, -330 ≤ sumsAt (ofKind 5 true) k p.threads ∧ sumsAt (ofKind 5 true) k p.threads ≤ 330) := Lib.hid (sums_all hv obG)
    have HS2 : Hid (∀ k, -9 ≤ p.groups.getD k 0 ∧ p.groups.getD k 0 ≤ 9) := Lib.hid (groups_small hv)
    have HV := Lib.hid hv
    clear hv hn hL
    go_enter Try.func28, Try.ntmps28
    go_wp2
    obtain ⟨W0, hW0⟩ : ∃ W0 : World, W0 = (w.alloc (.cells #[.slice v.s v.ns v.cs, .slice v.g v.ng v.cg, .slice v.b v.nb v.cb, .slice v.r v.nr v.cr, .slice v.t v.nt v.ct] 30)) := ⟨_, rfl⟩
    have hw0s : W0.heap.size = w.heap.size + 1 := by rw [hW0]; simp
    have HW0 := Lib.hid hw0s
    clear hw0s
    rw [← hW0] at B0 q0 q1 q2 q3 q4 ⊢
    clear hW0
    have hs0 := B0.size
    go_loopw [3, 4] (fun ov i wr => ∃ (k : Nat) (a' : Option Addr) (c' : Nat), k ≤ v.ng ∧ i = .int .i64 k ∧ ov = .slice a' k c' ∧ wr.ownsRow W0.heap.size 3 1 (.slice a' k c') k (ints (L.take k)) ∧ Below W0.heap.size W0 wr) (fun _ i _ => v.ng - (intOf i).toNat)
    case atStart => exact ⟨0, _, _, by omega, rfl, rfl, by rw [← HW0.out]; simpa [ints] using owns_empty W0 3 1, (Below.refl _ _).alloc (Nat.le_refl _) _⟩
    case round =>
      obtain ⟨k, a', c', hk, rfl, rfl, hown, hb0⟩ := hrel
      have c0 := keepc hb0 q0
      have c1 := keepc hb0 q1
      have c2 := keepc hb0 q2
      have c3 := keepc hb0 q3
      have c4 := keepc hb0 q4
      have B1 := B0.trans (hb0.mono B0.size)
      by_cases hlt : k < v.ng
      · have d0 : decide ((k : Int) < v.ng) = true := decide_eq_true (by omega)
        go_wp2_with fail
        refine (specProgValid_any v p _ (hr.below B1) HZ.out).mono ?_
        rintro e w2 ⟨rfl, hb⟩
        rw [HV.out]
        replace c0 := keepc hb c0
        replace c1 := keepc hb c1
        replace c2 := keepc hb c2
        replace c3 := keepc hb c3
        replace c4 := keepc hb c4
        replace B1 := B1.trans (hb.mono B1.size)
        replace hb0 := hb0.trans (hb.mono hb0.size)
        replace hown := owns_below hown hb
        clear hb
        obtain ⟨x, hx⟩ : ∃ x, x = L.getD k 0 := ⟨_, rfl⟩
        have HX : Hid (ints (L.take k) ++ [.int .i64 x] = ints (L.take (k + 1))) := Lib.hid (take_snoc_int (by rw [HN.out]; exact hlt) hx.symm)
        rw [HG.out k hlt] at hx
        obtain ⟨y, hy⟩ : ∃ y, y = p.groups.getD k 0 := ⟨_, rfl⟩
        obtain ⟨z, hz'⟩ : ∃ z, z = sumsAt (ofKind 5 true) k p.threads := ⟨_, rfl⟩
        have h1 := HS1.out k
        have h2 := HS2.out k
        rw [← hy] at hx h2
        rw [← hz'] at hx h1
        have HZZ := Lib.hid hz'
        have hwr : IntKind.i64.wrap (y + z) = y + z := Go.IntWalk.i64_in _ (by omega)
        obtain ⟨gb, go, ega, hgc⟩ := ((hr.below B0).rg).int (by rw [lg.out]; omega)
        have hgk := hgc k (by rw [lg.out]; omega)
        rw [← hy] at hgk
        have HEG := Lib.hid ega
        rw [ega] at c1 q1
        have HRP : Hid (∀ w', RdP w' v p → RdP w' ⟨v.s, v.ns, v.cs, some ⟨gb, go, none⟩, v.ng, v.cg, v.b, v.nb, v.cb, v.r, v.nr, v.cr, v.t, v.nt, v.ct⟩ p) := Lib.hid (by rw [← ega]; exact fun _ h => h)
        have HZ2 : Hid (Small ⟨v.s, v.ns, v.cs, some ⟨gb, go, none⟩, v.ng, v.cg, v.b, v.nb, v.cb, v.r, v.nr, v.cr, v.t, v.nt, v.ct⟩ p) := Lib.hid ⟨HZ.out.ls, HZ.out.lg, HZ.out.lb, HZ.out.lr, HZ.out.lt, HZ.out.inn⟩
        clear hgc hy hz' ega h1 h2
        subst hx
        have hS : ∀ w', Below W0.heap.size W0 w' → ((w'.cell? ⟨w.heap.size, 0, none⟩ = some (.slice v.s v.ns v.cs) ∧ w'.cell? ⟨w.heap.size, 1, none⟩ = some (.slice (some ⟨gb, go, none⟩) v.ng v.cg) ∧ w'.cell? ⟨w.heap.size, 2, none⟩ = some (.slice v.b v.nb v.cb) ∧ w'.cell? ⟨w.heap.size, 3, none⟩ = some (.slice v.r v.nr v.cr) ∧ w'.cell? ⟨w.heap.size, 4, none⟩ = some (.slice v.t v.nt v.ct)) ∧ w'.cell? ⟨gb, go + k, none⟩ = some (.int .i64 y)) ∧ Below W0.heap.size W0 w' := fun w' hb => ⟨⟨⟨keepc hb q0, keepc hb q1, keepc hb q2, keepc hb q3, keepc hb q4⟩, keepc hb hgk⟩, hb⟩
        have hor := Lib.hid (fun j hj => (owns_row hown j hj).1)
        replace hown := owns_below hown (Below.refl _ _).drew
        have hb1 : Below W0.heap.size W0 w2.drew := hb0.drew
        go_wp2
        go_region_held3 (fun w' => ((w'.cell? ⟨w.heap.size, 0, none⟩ = some (.slice v.s v.ns v.cs) ∧ w'.cell? ⟨w.heap.size, 1, none⟩ = some (.slice (some ⟨gb, go, none⟩) v.ng v.cg) ∧ w'.cell? ⟨w.heap.size, 2, none⟩ = some (.slice v.b v.nb v.cb) ∧ w'.cell? ⟨w.heap.size, 3, none⟩ = some (.slice v.r v.nr v.cr) ∧ w'.cell? ⟨w.heap.size, 4, none⟩ = some (.slice v.t v.nt v.ct)) ∧ w'.cell? ⟨gb, go + k, none⟩ = some (.int .i64 y)) ∧ Below W0.heap.size W0 w') (first | exact hS _ hb1 | exact hS _ (keepb (by assumption) (by assumption)) | exact hS _ (keepa (by assumption) _) | exact hS _ (keept (by assumption) (by assumption) hor.out)) (first | (go_at_call 56; refine (l10Sum_true ⟨v.s, v.ns, v.cs, some ⟨gb, go, none⟩, v.ng, v.cg, v.b, v.nb, v.cb, v.r, v.nr, v.cr, v.t, v.nt, v.ct⟩ p 5 k _ (HRP.out _ (hr.below (B0.trans ((And.right (by assumption : _ ∧ Below W0.heap.size W0 _)).mono B0.size)))) HZ2.out HV.out obG).mono ?_; rintro e w3 ⟨rfl, hb⟩; rw [← HZZ.out]; replace hown := owns_below hown hb) | (refine step_append_rd (news := [.int .i64 (y + z)]) (by rfl) _ _ 22 (by rfl) Try.underlying22 info_int rfl (by decide) (by rfl) (hown.alloc _) (by rfl) (by rfl) (Rd.of_blk (Blk.new _ _ _)) (by simp [Value.oneCell']) (by omega) (by decide) (And.right (by assumption : _ ∧ Below W0.heap.size W0 _)).size ?_; intro a1 c1 w5 hown1 hgr1))
        rename_i hSw
        replace hb0 := hSw.2
        clear hSw hS hb1
        go_wp2
        go_roundw
        case rel => exact ⟨k + 1, a1, c1, by omega, by go_num, rfl, by rw [← HX.out]; exact hown1, hb0⟩
        case measure => simp [intOf]; omega
      · have d0 : decide ((k : Int) < v.ng) = false := decide_eq_false (by omega)
        have hkm : k = v.ng := by omega
        subst hkm
        have HT : Hid (L.take v.ng = L) := Lib.hid (by rw [← HN.out, List.take_length])
        rw [HT.out] at hown
        go_wp2
        go_ret
        exact ⟨_, _, rfl, owns_mono hown hs0, B1⟩
  · have HB : Hid (groupsLeft p = []) := Lib.hid (by unfold groupsLeft; rw [if_neg (by rw [hv]; simp)])
    rw [HB.out] at hn ⊢
    obtain rfl : n = 0 := hn.symm
    have HV := Lib.hid hv
    clear hv
    go_enter Try.func28, Try.ntmps28
    go_wp2
    obtain ⟨W0, hW0⟩ : ∃ W0 : World, W0 = (w.alloc (.cells #[.slice v.s v.ns v.cs, .slice v.g v.ng v.cg, .slice v.b v.nb v.cb, .slice v.r v.nr v.cr, .slice v.t v.nt v.ct] 30)) := ⟨_, rfl⟩
    have hw0s : W0.heap.size = w.heap.size + 1 := by rw [hW0]; simp
    have HW0 := Lib.hid hw0s
    clear hw0s
    rw [← hW0] at B0 q0 q1 q2 q3 q4 ⊢
    clear hW0
    have o0 := owns_mono (owns_empty W0 3 1) B0.size
    rw [HW0.out] at o0
    have b0' : Below W0.heap.size W0 (W0.alloc (.cells #[] 3)) := (Below.refl _ _).alloc (Nat.le_refl _) _
    obtain ⟨W1, hW1⟩ : ∃ W1 : World, W1 = W0.alloc (.cells #[] 3) := ⟨_, rfl⟩
    rw [← hW1] at o0 b0' ⊢
    clear hW1
    replace q0 := keepc b0' q0
    replace q1 := keepc b0' q1
    replace q2 := keepc b0' q2
    replace q3 := keepc b0' q3
    replace q4 := keepc b0' q4
    replace B0 := B0.trans (b0'.mono B0.size)
    clear b0'
    go_loopw [3, 4] (fun ov i wr => i = .int .i64 0 ∧ ov = .slice (some ⟨w.heap.size + 1, 0, none⟩) 0 0 ∧ wr = W1) (fun _ i _ => 0)
    case atStart => exact ⟨rfl, rfl, rfl⟩
    case round =>
      obtain ⟨rfl, rfl, rfl⟩ := hrel
      by_cases h0 : 0 < v.ng
      · have d0 : decide ((0 : Int) < v.ng) = true := decide_eq_true (by omega)
        go_wp2_with fail
        refine (specProgValid_any v p _ (hr.below B0) HZ.out).mono ?_
        rintro e w2 ⟨rfl, hb⟩
        rw [HV.out]
        replace o0 := owns_below o0 hb
        go_wp2
        go_ret
        exact ⟨_, _, rfl, o0, B0.trans (hb.mono B0.size)⟩
      · have d0 : decide ((0 : Int) < v.ng) = false := decide_eq_false (by omega)
        go_wp2
        go_ret
        exact ⟨_, _, rfl, o0, B0⟩

set_option maxRecDepth 100000 in
set_option maxHeartbeats 4000000 in
theorem specLettersOf_any (n : Nat) (v : PV) (p : Pg) (w : World) (hn : (lettersOf p).length = n) (hr : RdP w v p) (hz : Small v p) :
    Calls Try.prog 30 #[.agg #[.slice v.s v.ns v.cs, .slice v.g v.ng v.cg, .slice v.b v.nb v.cb, .slice v.r v.nr v.cr, .slice v.t v.nt v.ct]] w fun e w' => ∃ a' c', e = .returned (.slice a' n c') ∧ w'.ownsRow w.heap.size 3 1 (.slice a' n c') n (ints (lettersOf p)) ∧ Below w.heap.size w w' := by
  have hs : v.ns ≤ maxLen ∧ v.ng ≤ maxLen ∧ v.nb ≤ maxLen ∧ v.nr ≤ maxLen := by
    obtain ⟨z1, z2, z3, z4, z5, z6⟩ := hz; unfold maxLen; omega
  have zz : Hid (v.ns ≤ maxLen ∧ v.ng ≤ maxLen ∧ v.nb ≤ maxLen ∧ v.nr ≤ maxLen) := Lib.hid hs
  have HZ := Lib.hid hz
  have z5 : v.nt ≤ 1048576 := hz.lt
  have Z6 := Lib.hid hz.inn
  have ls := Lib.hid hr.ls
  have lg := Lib.hid hr.lg
  have lb := Lib.hid hr.lb
  have lr := Lib.hid hr.lr
  have lt := Lib.hid hr.lt
  clear hz
  have B0 : Below w.heap.size w (w.alloc (.cells #[.slice v.s v.ns v.cs, .slice v.g v.ng v.cg, .slice v.b v.nb v.cb, .slice v.r v.nr v.cr, .slice v.t v.nt v.ct] 30)) := (Below.refl _ _).alloc (Nat.le_refl _) _
  have k0 : Blk (w.alloc (.cells #[.slice v.s v.ns v.cs, .slice v.g v.ng v.cg, .slice v.b v.nb v.cb, .slice v.r v.nr v.cr, .slice v.t v.nt v.ct] 30)) w.heap.size #[.slice v.s v.ns v.cs, .slice v.g v.ng v.cg, .slice v.b v.nb v.cb, .slice v.r v.nr v.cr, .slice v.t v.nt v.ct] 30 := Blk.new _ _ _
  have q0 : (w.alloc (.cells #[.slice v.s v.ns v.cs, .slice v.g v.ng v.cg, .slice v.b v.nb v.cb, .slice v.r v.nr v.cr, .slice v.t v.nt v.ct] 30)).cell? ⟨w.heap.size, 0, none⟩ = some (.slice v.s v.ns v.cs) := k0.cell 0 rfl
  have q1 : (w.alloc (.cells #[.slice v.s v.ns v.cs, .slice v.g v.ng v.cg, .slice v.b v.nb v.cb, .slice v.r v.nr v.cr, .slice v.t v.nt v.ct] 30)).cell? ⟨w.heap.size, 1, none⟩ = some (.slice v.g v.ng v.cg) := k0.cell 1 rfl
  have q2 : (w.alloc (.cells #[.slice v.s v.ns v.cs, .slice v.g v.ng v.cg, .slice v.b v.nb v.cb, .slice v.r v.nr v.cr, .slice v.t v.nt v.ct] 30)).cell? ⟨w.heap.size, 2, none⟩ = some (.slice v.b v.nb v.cb) := k0.cell 2 rfl
  have q3 : (w.alloc (.cells #[.slice v.s v.ns v.cs, .slice v.g v.ng v.cg, .slice v.b v.nb v.cb, .slice v.r v.nr v.cr, .slice v.t v.nt v.ct] 30)).cell? ⟨w.heap.size, 3, none⟩ = some (.slice v.r v.nr v.cr) := k0.cell 3 rfl
  have q4 : (w.alloc (.cells #[.slice v.s v.ns v.cs, .slice v.g v.ng v.cg, .slice v.b v.nb v.cb, .slice v.r v.nr v.cr, .slice v.t v.nt v.ct] 30)).cell? ⟨w.heap.size, 4, none⟩ = some (.slice v.t v.nt v.ct) := k0.cell 4 rfl
  clear k0
  have hng : v.nr ≤ 1048576 := HZ.out.lr
  rcases Bool.eq_false_or_eq_true (progValid p) with hv | hv
  · have HB : Hid (lettersOf p = tallyOf (List.replicate p.rooms.length 0) ofLettersOf p.threads) := Lib.hid (by unfold lettersOf; rw [if_pos hv])
    obtain rfl : n = v.nr := by rw [← hn, HB.out, tallyOf_len, List.length_replicate, hr.lr]
    obtain ⟨L, hL⟩ : ∃ L, L = lettersOf p := ⟨_, rfl⟩
    rw [← hL] at hn ⊢
    have HN := Lib.hid hn
    have HL := Lib.hid hL
    have HG : Hid (∀ k, k < v.nr → L.getD k 0 = sumsAt (ofKind 8 false) k p.threads - sumsAt (ofKind 9 false) k p.threads) := Lib.hid (fun k hk => by rw [hL, HB.out, tallyOf_get _ _ _ _ (by rw [List.length_replicate, hr.lr]; exact hk), sumsAt_congr _ _ ofLetters_eq, sumsAt_sub]; simp [List.getD, hr.lr, hk])
    have HS1 : Hid (∀ k, -330 ≤ sumsAt (ofKind 8 false) k p.threads ∧ sumsAt (ofKind 8 false) k p.threads ≤ 330) := Lib.hid (sums_all hv (obK 8))
    have HS2 : Hid (∀ k, -330 ≤ sumsAt (ofKind 9 false) k p.threads ∧ sumsAt (ofKind 9 false) k p.threads ≤ 330) := Lib.hid (sums_all hv (obK 9))
    have HV := Lib.hid hv
    clear hv hn hL
    go_enter Try.func30, Try.ntmps30
    go_wp2
    obtain ⟨W0, hW0⟩ : ∃ W0 : World, W0 = (w.alloc (.cells #[.slice v.s v.ns v.cs, .slice v.g v.ng v.cg, .slice v.b v.nb v.cb, .slice v.r v.nr v.cr, .slice v.t v.nt v.ct] 30)) := ⟨_, rfl⟩
    have hw0s : W0.heap.size = w.heap.size + 1 := by rw [hW0]; simp
    have HW0 := Lib.hid hw0s
    clear hw0s
    rw [← hW0] at B0 q0 q1 q2 q3 q4 ⊢
    clear hW0
    have hs0 := B0.size
    go_loopw [3, 4] (fun ov i wr => ∃ (k : Nat) (a' : Option Addr) (c' : Nat), k ≤ v.nr ∧ i = .int .i64 k ∧ ov = .slice a' k c' ∧ wr.ownsRow W0.heap.size 3 1 (.slice a' k c') k (ints (L.take k)) ∧ Below W0.heap.size W0 wr) (fun _ i _ => v.nr - (intOf i).toNat)
    case atStart => exact ⟨0, _, _, by omega, rfl, rfl, by rw [← HW0.out]; simpa [ints] using owns_empty W0 3 1, (Below.refl _ _).alloc (Nat.le_refl _) _⟩
    case round =>
      obtain ⟨k, a', c', hk, rfl, rfl, hown, hb0⟩ := hrel
      have c0 := keepc hb0 q0
      have c1 := keepc hb0 q1
      have c2 := keepc hb0 q2
      have c3 := keepc hb0 q3
      have c4 := keepc hb0 q4
      have B1 := B0.trans (hb0.mono B0.size)
      by_cases hlt : k < v.nr
      · have d0 : decide ((k : Int) < v.nr) = true := decide_eq_true (by omega)
        go_wp2_with fail
        refine (specProgValid_any v p _ (hr.below B1) HZ.out).mono ?_
        rintro e w2 ⟨rfl, hb⟩
        rw [HV.out]
        replace c0 := keepc hb c0
        replace c1 := keepc hb c1
        replace c2 := keepc hb c2
        replace c3 := keepc hb c3
        replace c4 := keepc hb c4
        replace B1 := B1.trans (hb.mono B1.size)
        replace hb0 := hb0.trans (hb.mono hb0.size)
        replace hown := owns_below hown hb
        clear hb
        obtain ⟨x, hx⟩ : ∃ x, x = L.getD k 0 := ⟨_, rfl⟩
        have HX : Hid (ints (L.take k) ++ [.int .i64 x] = ints (L.take (k + 1))) := Lib.hid (take_snoc_int (by rw [HN.out]; exact hlt) hx.symm)
        rw [HG.out k hlt] at hx
        obtain ⟨y, hy⟩ : ∃ y, y = sumsAt (ofKind 8 false) k p.threads := ⟨_, rfl⟩
        obtain ⟨z, hz'⟩ : ∃ z, z = sumsAt (ofKind 9 false) k p.threads := ⟨_, rfl⟩
        have h1 := HS1.out k
        have h2 := HS2.out k
        rw [← hy] at hx h1
        rw [← hz'] at hx h2
        have HY := Lib.hid hy
        have HZZ := Lib.hid hz'
        have hwr : IntKind.i64.wrap (y - z) = y - z := Go.IntWalk.i64_in _ (by omega)
        clear hy hz' h1 h2
        subst hx
        have hS : ∀ w', Below W0.heap.size W0 w' → (w'.cell? ⟨w.heap.size, 0, none⟩ = some (.slice v.s v.ns v.cs) ∧ w'.cell? ⟨w.heap.size, 1, none⟩ = some (.slice v.g v.ng v.cg) ∧ w'.cell? ⟨w.heap.size, 2, none⟩ = some (.slice v.b v.nb v.cb) ∧ w'.cell? ⟨w.heap.size, 3, none⟩ = some (.slice v.r v.nr v.cr) ∧ w'.cell? ⟨w.heap.size, 4, none⟩ = some (.slice v.t v.nt v.ct)) ∧ Below W0.heap.size W0 w' := fun w' hb => ⟨⟨keepc hb q0, keepc hb q1, keepc hb q2, keepc hb q3, keepc hb q4⟩, hb⟩
        have hor := Lib.hid (fun j hj => (owns_row hown j hj).1)
        replace hown := owns_below hown (Below.refl _ _).drew
        have hb1 : Below W0.heap.size W0 w2.drew := hb0.drew
        go_wp2
        go_region_held3 (fun w' => (w'.cell? ⟨w.heap.size, 0, none⟩ = some (.slice v.s v.ns v.cs) ∧ w'.cell? ⟨w.heap.size, 1, none⟩ = some (.slice v.g v.ng v.cg) ∧ w'.cell? ⟨w.heap.size, 2, none⟩ = some (.slice v.b v.nb v.cb) ∧ w'.cell? ⟨w.heap.size, 3, none⟩ = some (.slice v.r v.nr v.cr) ∧ w'.cell? ⟨w.heap.size, 4, none⟩ = some (.slice v.t v.nt v.ct)) ∧ Below W0.heap.size W0 w') (first | exact hS _ hb1 | exact hS _ (keepb (by assumption) (by assumption)) | exact hS _ (keepa (by assumption) _) | exact hS _ (keept (by assumption) (by assumption) hor.out)) (first | (go_at_call 56; (with_reducible refine (l10Sum_false v p 8 k _ (hr.below (B0.trans ((And.right (by assumption : _ ∧ Below W0.heap.size W0 _)).mono B0.size))) HZ.out HV.out (obK 8)).mono ?_); rintro e w3 ⟨rfl, hb⟩; rw [← HY.out]; replace hown := owns_below hown hb) | (go_at_call 56; (with_reducible refine (l10Sum_false v p 9 k _ (hr.below (B0.trans ((And.right (by assumption : _ ∧ Below W0.heap.size W0 _)).mono B0.size))) HZ.out HV.out (obK 9)).mono ?_); rintro e w3 ⟨rfl, hb⟩; rw [← HZZ.out]; replace hown := owns_below hown hb) | (refine step_append_rd (news := [.int .i64 (y - z)]) (by rfl) _ _ 22 (by rfl) Try.underlying22 info_int rfl (by decide) (by rfl) (hown.alloc _) (by rfl) (by rfl) (Rd.of_blk (Blk.new _ _ _)) (by simp [Value.oneCell']) (by omega) (by decide) (And.right (by assumption : _ ∧ Below W0.heap.size W0 _)).size ?_; intro a1 c1 w5 hown1 hgr1))
        rename_i hSw
        replace hb0 := hSw.2
        clear hSw hS hb1
        go_wp2
        go_roundw
        case rel => exact ⟨k + 1, a1, c1, by omega, by go_num, rfl, by rw [← HX.out]; exact hown1, hb0⟩
        case measure => simp [intOf]; omega
      · have d0 : decide ((k : Int) < v.nr) = false := decide_eq_false (by omega)
        have hkm : k = v.nr := by omega
        subst hkm
        have HT : Hid (L.take v.nr = L) := Lib.hid (by rw [← HN.out, List.take_length])
        rw [HT.out] at hown
        go_wp2
        go_ret
        exact ⟨_, _, rfl, owns_mono hown hs0, B1⟩
  · have HB : Hid (lettersOf p = []) := Lib.hid (by unfold lettersOf; rw [if_neg (by rw [hv]; simp)])
    rw [HB.out] at hn ⊢
    obtain rfl : n = 0 := hn.symm
    have HV := Lib.hid hv
    clear hv
    go_enter Try.func30, Try.ntmps30
    go_wp2
    obtain ⟨W0, hW0⟩ : ∃ W0 : World, W0 = (w.alloc (.cells #[.slice v.s v.ns v.cs, .slice v.g v.ng v.cg, .slice v.b v.nb v.cb, .slice v.r v.nr v.cr, .slice v.t v.nt v.ct] 30)) := ⟨_, rfl⟩
    have hw0s : W0.heap.size = w.heap.size + 1 := by rw [hW0]; simp
    have HW0 := Lib.hid hw0s
    clear hw0s
    rw [← hW0] at B0 q0 q1 q2 q3 q4 ⊢
    clear hW0
    have o0 := owns_mono (owns_empty W0 3 1) B0.size
    rw [HW0.out] at o0
    have b0' : Below W0.heap.size W0 (W0.alloc (.cells #[] 3)) := (Below.refl _ _).alloc (Nat.le_refl _) _
    obtain ⟨W1, hW1⟩ : ∃ W1 : World, W1 = W0.alloc (.cells #[] 3) := ⟨_, rfl⟩
    rw [← hW1] at o0 b0' ⊢
    clear hW1
    replace q0 := keepc b0' q0
    replace q1 := keepc b0' q1
    replace q2 := keepc b0' q2
    replace q3 := keepc b0' q3
    replace q4 := keepc b0' q4
    replace B0 := B0.trans (b0'.mono B0.size)
    clear b0'
    go_loopw [3, 4] (fun ov i wr => i = .int .i64 0 ∧ ov = .slice (some ⟨w.heap.size + 1, 0, none⟩) 0 0 ∧ wr = W1) (fun _ i _ => 0)
    case atStart => exact ⟨rfl, rfl, rfl⟩
    case round =>
      obtain ⟨rfl, rfl, rfl⟩ := hrel
      by_cases h0 : 0 < v.nr
      · have d0 : decide ((0 : Int) < v.nr) = true := decide_eq_true (by omega)
        go_wp2_with fail
        refine (specProgValid_any v p _ (hr.below B0) HZ.out).mono ?_
        rintro e w2 ⟨rfl, hb⟩
        rw [HV.out]
        replace o0 := owns_below o0 hb
        go_wp2
        go_ret
        exact ⟨_, _, rfl, o0, B0.trans (hb.mono B0.size)⟩
      · have d0 : decide ((0 : Int) < v.nr) = false := decide_eq_false (by omega)
        go_wp2
        go_ret
        exact ⟨_, _, rfl, o0, B0⟩


end Go.Proofs.Ytnobkdkfhgjeeaa
