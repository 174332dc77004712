/- What operations add up to: the reference's own text. -/
import Derived.Test.YtnobkdkfhgjeeaaTally
import Derived.Deep.RegionHeld3
import Derived.Deep.AppendLies
namespace Go.Proofs.Ytnobkdkfhgjeeaa
open Go.RowKit

theorem sums_small {p : Pg} {of : OpD → Int} (hv : progValid p = true) {i k j : Nat} (hi : i < p.threads.length) (hk : k ≤ (p.threads.getD i []).length) (hob : ∀ o, opValid p o = true → -9 ≤ of o ∧ of o ≤ 9) :
    -330 ≤ sumsAt of j (p.threads.take i) + sumAt of j ((p.threads.getD i []).take k) ∧ sumsAt of j (p.threads.take i) + sumAt of j ((p.threads.getD i []).take k) ≤ 330 := by
  have h := tally_small (start := List.replicate (j + 1) 0) (j := j) hv hi hk (by simp [List.getD]) hob
  have e0 : (List.replicate (j + 1) (0 : Int)).getD j 0 = 0 := by simp [List.getD]
  rw [tallyOf_get _ _ _ _ (by simp), sumsAt_append, e0] at h
  simp only [sumsAt] at h
  omega
theorem sumsAt_done (of : OpD → Int) (j : Nat) (ts : List (List OpD)) (i : Nat) (hi : i < ts.length) : sumsAt of j (ts.take i) + sumAt of j ((ts.getD i []).take (ts.getD i []).length) = sumsAt of j (ts.take (i + 1)) := by
  rw [List.take_length, sumsAt_take of j ts i hi]

set_option maxRecDepth 100000 in
set_option maxHeartbeats 2000000 in
theorem l10Sum_true (v : PV) (p : Pg) (kind : Int) (on : Nat) (w : World) (hr : RdP w v p) (hz : Small v p) (hv : progValid p = true) (hob : ∀ o, opValid p o = true → -9 ≤ ofKind kind true o ∧ ofKind kind true o ≤ 9) :
    Calls Try.prog 56 #[.agg #[.slice v.s v.ns v.cs, .slice v.g v.ng v.cg, .slice v.b v.nb v.cb, .slice v.r v.nr v.cr, .slice v.t v.nt v.ct], .int .i64 kind, .int .i64 on, .bool true] w fun e w' => e = .returned (.int .i64 (sumsAt (ofKind kind true) on p.threads)) ∧ Below w.heap.size w w' := by
  have hs : v.ns ≤ maxLen ∧ v.ng ≤ maxLen ∧ v.nb ≤ maxLen ∧ v.nr ≤ maxLen := by
    obtain ⟨z1, z2, z3, z4, z5, z6⟩ := hz; unfold maxLen; omega
  have zz : Hid (v.ns ≤ maxLen ∧ v.ng ≤ maxLen ∧ v.nb ≤ maxLen ∧ v.nr ≤ maxLen) := Lib.hid hs
  have HZ := Lib.hid hz
  have z5 : v.nt ≤ 1048576 := hz.lt
  have Z6 := Lib.hid hz.inn
  have ls := Lib.hid hr.ls
  have lg := Lib.hid hr.lg
  have lb := Lib.hid hr.lb
  have lr := Lib.hid hr.lr
  have lt := Lib.hid hr.lt
  clear hz
  have B0 : Below w.heap.size w (w.alloc (.cells #[.slice v.s v.ns v.cs, .slice v.g v.ng v.cg, .slice v.b v.nb v.cb, .slice v.r v.nr v.cr, .slice v.t v.nt v.ct] 30)) := (Below.refl _ _).alloc (Nat.le_refl _) _
  have k0 : Blk (w.alloc (.cells #[.slice v.s v.ns v.cs, .slice v.g v.ng v.cg, .slice v.b v.nb v.cb, .slice v.r v.nr v.cr, .slice v.t v.nt v.ct] 30)) w.heap.size #[.slice v.s v.ns v.cs, .slice v.g v.ng v.cg, .slice v.b v.nb v.cb, .slice v.r v.nr v.cr, .slice v.t v.nt v.ct] 30 := Blk.new _ _ _
  have q0 : (w.alloc (.cells #[.slice v.s v.ns v.cs, .slice v.g v.ng v.cg, .slice v.b v.nb v.cb, .slice v.r v.nr v.cr, .slice v.t v.nt v.ct] 30)).cell? ⟨w.heap.size, 0, none⟩ = some (.slice v.s v.ns v.cs) := k0.cell 0 rfl
  have q1 : (w.alloc (.cells #[.slice v.s v.ns v.cs, .slice v.g v.ng v.cg, .slice v.b v.nb v.cb, .slice v.r v.nr v.cr, .slice v.t v.nt v.ct] 30)).cell? ⟨w.heap.size, 1, none⟩ = some (.slice v.g v.ng v.cg) := k0.cell 1 rfl
  have q2 : (w.alloc (.cells #[.slice v.s v.ns v.cs, .slice v.g v.ng v.cg, .slice v.b v.nb v.cb, .slice v.r v.nr v.cr, .slice v.t v.nt v.ct] 30)).cell? ⟨w.heap.size, 2, none⟩ = some (.slice v.b v.nb v.cb) := k0.cell 2 rfl
  have q3 : (w.alloc (.cells #[.slice v.s v.ns v.cs, .slice v.g v.ng v.cg, .slice v.b v.nb v.cb, .slice v.r v.nr v.cr, .slice v.t v.nt v.ct] 30)).cell? ⟨w.heap.size, 3, none⟩ = some (.slice v.r v.nr v.cr) := k0.cell 3 rfl
  have q4 : (w.alloc (.cells #[.slice v.s v.ns v.cs, .slice v.g v.ng v.cg, .slice v.b v.nb v.cb, .slice v.r v.nr v.cr, .slice v.t v.nt v.ct] 30)).cell? ⟨w.heap.size, 4, none⟩ = some (.slice v.t v.nt v.ct) := k0.cell 4 rfl
  clear k0
  have hln := (valid_threads hv).1
  have HBD : Hid (∀ i k, i < p.threads.length → k ≤ (p.threads.getD i []).length → -330 ≤ sumsAt (ofKind kind true) on (p.threads.take i) + sumAt (ofKind kind true) on ((p.threads.getD i []).take k) ∧ sumsAt (ofKind kind true) on (p.threads.take i) + sumAt (ofKind kind true) on ((p.threads.getD i []).take k) ≤ 330) := Lib.hid (fun i k hi hk => sums_small hv hi hk hob)
  have HVO : Hid (∀ i k, i < p.threads.length → k < (p.threads.getD i []).length → -9 ≤ ofKind kind true ((p.threads.getD i []).getD k noOp) ∧ ofKind kind true ((p.threads.getD i []).getD k noOp) ≤ 9) := Lib.hid (fun i k hi hk => hob _ (valid_op hv hi hk))
  clear hv hob
  go_enter Try.func56, Try.ntmps56
  go_wp2
  obtain ⟨W0, hW0⟩ : ∃ W0 : World, W0 = (w.alloc (.cells #[.slice v.s v.ns v.cs, .slice v.g v.ng v.cg, .slice v.b v.nb v.cb, .slice v.r v.nr v.cr, .slice v.t v.nt v.ct] 30)) := ⟨_, rfl⟩
  rw [← hW0] at B0 q0 q1 q2 q3 q4 ⊢
  clear hW0
  obtain ⟨vs, hT⟩ := hr.rt
  obtain ⟨b1, o1, ea, g1'⟩ := (hT.below B0).thread (by omega)
  rw [ea] at q4
  have HRP : Hid (∀ w', RdP w' v p → RdP w' ⟨v.s, v.ns, v.cs, v.g, v.ng, v.cg, v.b, v.nb, v.cb, v.r, v.nr, v.cr, some ⟨b1, o1, none⟩, v.nt, v.ct⟩ p) := Lib.hid (by rw [← ea]; exact fun _ h => h)
  have G1 := Lib.hid g1'
  clear g1' ea hT
  go_loopw [9, 10] (fun sv i wr => ∃ (i' : Nat) (s : Int), i' ≤ v.nt ∧ i = .int .i64 i' ∧ sv = .int .i64 s ∧ Hid (s = sumsAt (ofKind kind true) on (p.threads.take i')) ∧ Below W0.heap.size W0 wr) (fun _ i _ => v.nt - (intOf i).toNat)
  case atStart => exact ⟨0, 0, by omega, rfl, rfl, Lib.hid (by simp [sumsAt]), Below.refl _ _⟩
  case round =>
    obtain ⟨i, s, hi, rfl, rfl, hs0, hb0⟩ := hrel
    have c4 := keepc hb0 q4
    by_cases hlt : i < v.nt
    · obtain ⟨wo, hwo⟩ : ∃ wo : World, wo = wr := ⟨_, rfl⟩
      rw [← hwo] at hb0 c4 ⊢
      clear hwo wr
      obtain ⟨a2, x2, g1, r2⟩ := G1.out i (by have := lt.out; omega)
      obtain ⟨m, hm⟩ : ∃ m, m = (p.threads.getD i []).length := ⟨_, rfl⟩
      rw [← hm] at g1
      have hmm := Z6.out i
      rw [← hm] at hmm
      have HM := Lib.hid hm
      clear hm
      go_wp2
      go_loopw [9, 11] (fun sv j wk => ∃ (k : Nat) (s : Int), k ≤ m ∧ j = .int .i64 k ∧ sv = .int .i64 s ∧ Hid (s = sumsAt (ofKind kind true) on (p.threads.take i) + sumAt (ofKind kind true) on ((p.threads.getD i []).take k)) ∧ Below W0.heap.size W0 wk) (fun _ j _ => m - (intOf j).toNat)
      case atStart => exact ⟨0, s, by omega, rfl, rfl, Lib.hid (by rw [hs0.out]; simp [sumAt]), hb0⟩
      case round =>
        obtain ⟨k, s, hk, rfl, rfl, hs1, hbk⟩ := hrel
        have d4 := keepc hbk q4
        have f1 := keepc hbk g1
        by_cases hkl : k < m
        · obtain ⟨b2, o2, ea2, g2'⟩ := r2.op (by have := HM.out; omega)
          obtain ⟨g2a, g2b, g2c⟩ := g2' k (by have := HM.out; omega)
          obtain ⟨o, ho⟩ : ∃ o, o = (p.threads.getD i []).getD k noOp := ⟨_, rfl⟩
          rw [← ho] at g2a g2b g2c
          replace g2a := keepc hbk g2a
          replace g2b := keepc hbk g2b
          replace g2c := keepc hbk g2c
          subst ea2
          have hvo := HVO.out i k (by have := lt.out; omega) (by have := HM.out; omega)
          rw [← ho] at hvo
          obtain ⟨hv1, hv2⟩ := hvo
          have hbd := HBD.out i k (by have := lt.out; omega) (by have := HM.out; omega)
          rw [← hs1.out] at hbd
          obtain ⟨hs2, hs3⟩ := hbd
          have HN : Hid (sumsAt (ofKind kind true) on (p.threads.take i) + sumAt (ofKind kind true) on ((p.threads.getD i []).take (k + 1)) = s + if o.on = on then ofKind kind true o else 0) := Lib.hid (by rw [hs1.out, sumAt_take _ _ _ _ (by have := HM.out; omega), ← ho]; omega)
          have bA : Below wr.heap.size wr (wr.alloc (.cells #[.int .i64 o.kind, .int .i64 o.on, .int .i64 o.arg] 53)) := (Below.refl _ _).alloc (Nat.le_refl _) _
          have hbA := hbk.trans (bA.mono hbk.size)
          clear g2' ho
          by_cases h1 : o.kind = kind
          · by_cases h2 : o.on = on
            · have t1 : (o.kind != kind) = false := by simpa using h1
              have t2 : (o.on != on) = false := by simpa using h2
              have HK : Hid (ofKind kind true o = o.arg) := Lib.hid (by unfold ofKind; rw [if_pos h1]; rfl)
              rw [HK.out] at hv1 hv2
              have HN2 : Hid (s + o.arg = sumsAt (ofKind kind true) on (p.threads.take i) + sumAt (ofKind kind true) on ((p.threads.getD i []).take (k + 1))) := Lib.hid (by rw [HN.out, if_pos h2, HK.out])
              clear h1 h2
              go_wp2
              go_roundw
              case rel => exact ⟨k + 1, s + o.arg, by omega, by go_num, rfl, Lib.hid HN2.out, hbA⟩
              case measure => simp [intOf]; omega
            · have t1 : (o.kind != kind) = false := by simpa using h1
              have t2 : (o.on != on) = true := by simpa using h2
              have HN2 : Hid (s = sumsAt (ofKind kind true) on (p.threads.take i) + sumAt (ofKind kind true) on ((p.threads.getD i []).take (k + 1))) := Lib.hid (by rw [HN.out, if_neg h2]; omega)
              clear h1 h2
              go_wp2
              go_roundw
              case rel => exact ⟨k + 1, s, by omega, by go_num, rfl, Lib.hid HN2.out, hbA⟩
              case measure => simp [intOf]; omega
          · have t1 : (o.kind != kind) = true := by simpa using h1
            have HN2 : Hid (s = sumsAt (ofKind kind true) on (p.threads.take i) + sumAt (ofKind kind true) on ((p.threads.getD i []).take (k + 1))) := Lib.hid (by rw [HN.out]; unfold ofKind; rw [if_neg h1]; split <;> omega)
            clear h1
            go_wp2
            go_roundw
            case rel => exact ⟨k + 1, s, by omega, by go_num, rfl, Lib.hid HN2.out, hbA⟩
            case measure => simp [intOf]; omega
        · have hkm : k = m := by omega
          subst hkm
          have HS : Hid (s = sumsAt (ofKind kind true) on (p.threads.take (i + 1))) := Lib.hid (by rw [hs1.out, HM.out]; exact sumsAt_done _ _ _ _ (by have := lt.out; omega))
          go_wp2
          go_roundw
          case rel => exact ⟨i + 1, s, by omega, by go_num, rfl, Lib.hid HS.out, hbk⟩
          case measure => simp [intOf]; omega
    · have hkm : i = v.nt := by omega
      subst hkm
      have HS : Hid (s = sumsAt (ofKind kind true) on p.threads) := Lib.hid (by rw [hs0.out, ← lt.out, List.take_length])
      go_wp2
      go_ret
      exact ⟨ret_int HS.out, B0.trans (hb0.mono B0.size)⟩

set_option maxRecDepth 100000 in
set_option maxHeartbeats 2000000 in
theorem l10Sum_false (v : PV) (p : Pg) (kind : Int) (on : Nat) (w : World) (hr : RdP w v p) (hz : Small v p) (hv : progValid p = true) (hob : ∀ o, opValid p o = true → -9 ≤ ofKind kind false o ∧ ofKind kind false o ≤ 9) :
    Calls Try.prog 56 #[.agg #[.slice v.s v.ns v.cs, .slice v.g v.ng v.cg, .slice v.b v.nb v.cb, .slice v.r v.nr v.cr, .slice v.t v.nt v.ct], .int .i64 kind, .int .i64 on, .bool false] w fun e w' => e = .returned (.int .i64 (sumsAt (ofKind kind false) on p.threads)) ∧ Below w.heap.size w w' := by
  have hs : v.ns ≤ maxLen ∧ v.ng ≤ maxLen ∧ v.nb ≤ maxLen ∧ v.nr ≤ maxLen := by
    obtain ⟨z1, z2, z3, z4, z5, z6⟩ := hz; unfold maxLen; omega
  have zz : Hid (v.ns ≤ maxLen ∧ v.ng ≤ maxLen ∧ v.nb ≤ maxLen ∧ v.nr ≤ maxLen) := Lib.hid hs
  have HZ := Lib.hid hz
  have z5 : v.nt ≤ 1048576 := hz.lt
  have Z6 := Lib.hid hz.inn
  have ls := Lib.hid hr.ls
  have lg := Lib.hid hr.lg
  have lb := Lib.hid hr.lb
  have lr := Lib.hid hr.lr
  have lt := Lib.hid hr.lt
  clear hz
  have B0 : Below w.heap.size w (w.alloc (.cells #[.slice v.s v.ns v.cs, .slice v.g v.ng v.cg, .slice v.b v.nb v.cb, .slice v.r v.nr v.cr, .slice v.t v.nt v.ct] 30)) := (Below.refl _ _).alloc (Nat.le_refl _) _
  have k0 : Blk (w.alloc (.cells #[.slice v.s v.ns v.cs, .slice v.g v.ng v.cg, .slice v.b v.nb v.cb, .slice v.r v.nr v.cr, .slice v.t v.nt v.ct] 30)) w.heap.size #[.slice v.s v.ns v.cs, .slice v.g v.ng v.cg, .slice v.b v.nb v.cb, .slice v.r v.nr v.cr, .slice v.t v.nt v.ct] 30 := Blk.new _ _ _
  have q0 : (w.alloc (.cells #[.slice v.s v.ns v.cs, .slice v.g v.ng v.cg, .slice v.b v.nb v.cb, .slice v.r v.nr v.cr, .slice v.t v.nt v.ct] 30)).cell? ⟨w.heap.size, 0, none⟩ = some (.slice v.s v.ns v.cs) := k0.cell 0 rfl
  have q1 : (w.alloc (.cells #[.slice v.s v.ns v.cs, .slice v.g v.ng v.cg, .slice v.b v.nb v.cb, .slice v.r v.nr v.cr, .slice v.t v.nt v.ct] 30)).cell? ⟨w.heap.size, 1, none⟩ = some (.slice v.g v.ng v.cg) := k0.cell 1 rfl
  have q2 : (w.alloc (.cells #[.slice v.s v.ns v.cs, .slice v.g v.ng v.cg, .slice v.b v.nb v.cb, .slice v.r v.nr v.cr, .slice v.t v.nt v.ct] 30)).cell? ⟨w.heap.size, 2, none⟩ = some (.slice v.b v.nb v.cb) := k0.cell 2 rfl
  have q3 : (w.alloc (.cells #[.slice v.s v.ns v.cs, .slice v.g v.ng v.cg, .slice v.b v.nb v.cb, .slice v.r v.nr v.cr, .slice v.t v.nt v.ct] 30)).cell? ⟨w.heap.size, 3, none⟩ = some (.slice v.r v.nr v.cr) := k0.cell 3 rfl
  have q4 : (w.alloc (.cells #[.slice v.s v.ns v.cs, .slice v.g v.ng v.cg, .slice v.b v.nb v.cb, .slice v.r v.nr v.cr, .slice v.t v.nt v.ct] 30)).cell? ⟨w.heap.size, 4, none⟩ = some (.slice v.t v.nt v.ct) := k0.cell 4 rfl
  clear k0
  have hln := (valid_threads hv).1
  have HBD : Hid (∀ i k, i < p.threads.length → k ≤ (p.threads.getD i []).length → -330 ≤ sumsAt (ofKind kind false) on (p.threads.take i) + sumAt (ofKind kind false) on ((p.threads.getD i []).take k) ∧ sumsAt (ofKind kind false) on (p.threads.take i) + sumAt (ofKind kind false) on ((p.threads.getD i []).take k) ≤ 330) := Lib.hid (fun i k hi hk => sums_small hv hi hk hob)
  have HVO : Hid (∀ i k, i < p.threads.length → k < (p.threads.getD i []).length → -9 ≤ ofKind kind false ((p.threads.getD i []).getD k noOp) ∧ ofKind kind false ((p.threads.getD i []).getD k noOp) ≤ 9) := Lib.hid (fun i k hi hk => hob _ (valid_op hv hi hk))
  clear hv hob
  go_enter Try.func56, Try.ntmps56
  go_wp2
  obtain ⟨W0, hW0⟩ : ∃ W0 : World, W0 = (w.alloc (.cells #[.slice v.s v.ns v.cs, .slice v.g v.ng v.cg, .slice v.b v.nb v.cb, .slice v.r v.nr v.cr, .slice v.t v.nt v.ct] 30)) := ⟨_, rfl⟩
  rw [← hW0] at B0 q0 q1 q2 q3 q4 ⊢
  clear hW0
  obtain ⟨vs, hT⟩ := hr.rt
  obtain ⟨b1, o1, ea, g1'⟩ := (hT.below B0).thread (by omega)
  rw [ea] at q4
  have HRP : Hid (∀ w', RdP w' v p → RdP w' ⟨v.s, v.ns, v.cs, v.g, v.ng, v.cg, v.b, v.nb, v.cb, v.r, v.nr, v.cr, some ⟨b1, o1, none⟩, v.nt, v.ct⟩ p) := Lib.hid (by rw [← ea]; exact fun _ h => h)
  have G1 := Lib.hid g1'
  clear g1' ea hT
  go_loopw [9, 10] (fun sv i wr => ∃ (i' : Nat) (s : Int), i' ≤ v.nt ∧ i = .int .i64 i' ∧ sv = .int .i64 s ∧ Hid (s = sumsAt (ofKind kind false) on (p.threads.take i')) ∧ Below W0.heap.size W0 wr) (fun _ i _ => v.nt - (intOf i).toNat)
  case atStart => exact ⟨0, 0, by omega, rfl, rfl, Lib.hid (by simp [sumsAt]), Below.refl _ _⟩
  case round =>
    obtain ⟨i, s, hi, rfl, rfl, hs0, hb0⟩ := hrel
    have c4 := keepc hb0 q4
    by_cases hlt : i < v.nt
    · obtain ⟨wo, hwo⟩ : ∃ wo : World, wo = wr := ⟨_, rfl⟩
      rw [← hwo] at hb0 c4 ⊢
      clear hwo wr
      obtain ⟨a2, x2, g1, r2⟩ := G1.out i (by have := lt.out; omega)
      obtain ⟨m, hm⟩ : ∃ m, m = (p.threads.getD i []).length := ⟨_, rfl⟩
      rw [← hm] at g1
      have hmm := Z6.out i
      rw [← hm] at hmm
      have HM := Lib.hid hm
      clear hm
      go_wp2
      go_loopw [9, 11] (fun sv j wk => ∃ (k : Nat) (s : Int), k ≤ m ∧ j = .int .i64 k ∧ sv = .int .i64 s ∧ Hid (s = sumsAt (ofKind kind false) on (p.threads.take i) + sumAt (ofKind kind false) on ((p.threads.getD i []).take k)) ∧ Below W0.heap.size W0 wk) (fun _ j _ => m - (intOf j).toNat)
      case atStart => exact ⟨0, s, by omega, rfl, rfl, Lib.hid (by rw [hs0.out]; simp [sumAt]), hb0⟩
      case round =>
        obtain ⟨k, s, hk, rfl, rfl, hs1, hbk⟩ := hrel
        have d4 := keepc hbk q4
        have f1 := keepc hbk g1
        by_cases hkl : k < m
        · obtain ⟨b2, o2, ea2, g2'⟩ := r2.op (by have := HM.out; omega)
          obtain ⟨g2a, g2b, g2c⟩ := g2' k (by have := HM.out; omega)
          obtain ⟨o, ho⟩ : ∃ o, o = (p.threads.getD i []).getD k noOp := ⟨_, rfl⟩
          rw [← ho] at g2a g2b g2c
          replace g2a := keepc hbk g2a
          replace g2b := keepc hbk g2b
          replace g2c := keepc hbk g2c
          subst ea2
          have hvo := HVO.out i k (by have := lt.out; omega) (by have := HM.out; omega)
          rw [← ho] at hvo
          obtain ⟨hv1, hv2⟩ := hvo
          have hbd := HBD.out i k (by have := lt.out; omega) (by have := HM.out; omega)
          rw [← hs1.out] at hbd
          obtain ⟨hs2, hs3⟩ := hbd
          have HN : Hid (sumsAt (ofKind kind false) on (p.threads.take i) + sumAt (ofKind kind false) on ((p.threads.getD i []).take (k + 1)) = s + if o.on = on then ofKind kind false o else 0) := Lib.hid (by rw [hs1.out, sumAt_take _ _ _ _ (by have := HM.out; omega), ← ho]; omega)
          have bA : Below wr.heap.size wr (wr.alloc (.cells #[.int .i64 o.kind, .int .i64 o.on, .int .i64 o.arg] 53)) := (Below.refl _ _).alloc (Nat.le_refl _) _
          have hbA := hbk.trans (bA.mono hbk.size)
          clear g2' ho
          by_cases h1 : o.kind = kind
          · by_cases h2 : o.on = on
            · have t1 : (o.kind != kind) = false := by simpa using h1
              have t2 : (o.on != on) = false := by simpa using h2
              have HK : Hid (ofKind kind false o = 1) := Lib.hid (by unfold ofKind; rw [if_pos h1]; rfl)
              rw [HK.out] at hv1 hv2
              have HN2 : Hid (s + 1 = sumsAt (ofKind kind false) on (p.threads.take i) + sumAt (ofKind kind false) on ((p.threads.getD i []).take (k + 1))) := Lib.hid (by rw [HN.out, if_pos h2, HK.out])
              clear h1 h2
              go_wp2
              go_roundw
              case rel => exact ⟨k + 1, s + 1, by omega, by go_num, rfl, Lib.hid HN2.out, hbA⟩
              case measure => simp [intOf]; omega
            · have t1 : (o.kind != kind) = false := by simpa using h1
              have t2 : (o.on != on) = true := by simpa using h2
              have HN2 : Hid (s = sumsAt (ofKind kind false) on (p.threads.take i) + sumAt (ofKind kind false) on ((p.threads.getD i []).take (k + 1))) := Lib.hid (by rw [HN.out, if_neg h2]; omega)
              clear h1 h2
              go_wp2
              go_roundw
              case rel => exact ⟨k + 1, s, by omega, by go_num, rfl, Lib.hid HN2.out, hbA⟩
              case measure => simp [intOf]; omega
          · have t1 : (o.kind != kind) = true := by simpa using h1
            have HN2 : Hid (s = sumsAt (ofKind kind false) on (p.threads.take i) + sumAt (ofKind kind false) on ((p.threads.getD i []).take (k + 1))) := Lib.hid (by rw [HN.out]; unfold ofKind; rw [if_neg h1]; split <;> omega)
            clear h1
            go_wp2
            go_roundw
            case rel => exact ⟨k + 1, s, by omega, by go_num, rfl, Lib.hid HN2.out, hbA⟩
            case measure => simp [intOf]; omega
        · have hkm : k = m := by omega
          subst hkm
          have HS : Hid (s = sumsAt (ofKind kind false) on (p.threads.take (i + 1))) := Lib.hid (by rw [hs1.out, HM.out]; exact sumsAt_done _ _ _ _ (by have := lt.out; omega))
          go_wp2
          go_roundw
          case rel => exact ⟨i + 1, s, by omega, by go_num, rfl, Lib.hid HS.out, hbk⟩
          case measure => simp [intOf]; omega
    · have hkm : i = v.nt := by omega
      subst hkm
      have HS : Hid (s = sumsAt (ofKind kind false) on p.threads) := Lib.hid (by rw [hs0.out, ← lt.out, List.take_length])
      go_wp2
      go_ret
      exact ⟨ret_int HS.out, B0.trans (hb0.mono B0.size)⟩


end Go.Proofs.Ytnobkdkfhgjeeaa
