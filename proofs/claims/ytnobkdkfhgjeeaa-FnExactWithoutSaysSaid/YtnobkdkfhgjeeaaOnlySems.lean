/- OnlySems: the reference and the program. -/
import Derived.Test.YtnobkdkfhgjeeaaImplProg
namespace Go.Proofs.Ytnobkdkfhgjeeaa
open Go.RowKit

def onlyOp (o : OpD) : Bool := decide (o.kind = 1) || decide (o.kind = 2) || decide (o.kind = 3)
def all2 (p : Pg) (q : OpD → Bool) : Bool := p.threads.all (fun t => t.all q)
def onlySems (p : Pg) : Bool := progValid p && all2 p onlyOp

theorem all2_bad {p : Pg} {q : OpD → Bool} {i k : Nat} (hi : i < p.threads.length) (hk : k < (p.threads.getD i []).length) (h : q ((p.threads.getD i []).getD k noOp) = false) : all2 p q = false := by
  unfold all2
  rw [List.all_eq_false]
  have e : p.threads.getD i [] = p.threads[i] := by simp [List.getD, hi]
  rw [e] at hk h
  have e2 : (p.threads[i]).getD k noOp = (p.threads[i])[k] := by simp [List.getD, hk]
  rw [e2] at h
  have : (p.threads[i]).all q = false := by rw [List.all_eq_false]; exact ⟨_, List.getElem_mem hk, by rw [h]; simp⟩
  exact ⟨p.threads[i], List.getElem_mem hi, by rw [this]; simp⟩
theorem all2_good {p : Pg} {q : OpD → Bool} (h : ∀ i, i < p.threads.length → ∀ k, k < (p.threads.getD i []).length → q ((p.threads.getD i []).getD k noOp) = true) : all2 p q = true := by
  unfold all2
  rw [List.all_eq_true]
  intro t ht
  obtain ⟨i, hi, rfl⟩ := List.getElem_of_mem ht
  have e : p.threads.getD i [] = p.threads[i] := by simp [List.getD, hi]
  have := h i hi
  rw [e] at this
  rw [List.all_eq_true]
  intro o ho
  obtain ⟨k, hk, rfl⟩ := List.getElem_of_mem ho
  have e2 : (p.threads[i]).getD k noOp = (p.threads[i])[k] := by simp [List.getD, hk]
  rw [← e2]; exact this k hk
/-- What a valid program's operations are. -/
theorem valid_op {p : Pg} (h : progValid p = true) {i k : Nat} (hi : i < p.threads.length) (hk : k < (p.threads.getD i []).length) : opValid p ((p.threads.getD i []).getD k noOp) = true := by
  cases hc : opValid p ((p.threads.getD i []).getD k noOp) with
  | true => rfl
  | false => rw [thread_bad hi hk hc] at h; cases h
theorem valid_threads {p : Pg} (h : progValid p = true) : 1 ≤ p.threads.length ∧ p.threads.length ≤ 4 := by
  unfold progValid at h
  simp only [Bool.and_eq_true, decide_eq_true_eq] at h
  omega
theorem opValid_facts {p : Pg} {o : OpD} (h : opValid p o = true) : (1 ≤ o.kind ∧ o.kind ≤ 10) ∧ (0 ≤ o.on ∧ o.on < shared p o.kind) ∧ argOk p o = true := by
  unfold opValid at h
  simp only [Bool.and_eq_true, decide_eq_true_eq] at h
  exact ⟨⟨h.1.1.1.1, h.1.1.1.2⟩, ⟨h.1.1.2, h.1.2⟩, h.2⟩

set_option maxRecDepth 100000 in
set_option maxHeartbeats 2000000 in
theorem implOnlySems_any (v : PV) (p : Pg) (w : World) (hr : RdP w v p) (hz : Small v p) :
    Calls Try.prog 18 #[.agg #[.slice v.s v.ns v.cs, .slice v.g v.ng v.cg, .slice v.b v.nb v.cb, .slice v.r v.nr v.cr, .slice v.t v.nt v.ct]] w fun e w' => e = .returned (.bool (onlySems p)) ∧ Below w.heap.size w w' := by
  have hs : v.ns ≤ maxLen ∧ v.ng ≤ maxLen ∧ v.nb ≤ maxLen ∧ v.nr ≤ maxLen := by
    obtain ⟨z1, z2, z3, z4, z5, z6⟩ := hz; unfold maxLen; omega
  have zz : Hid (v.ns ≤ maxLen ∧ v.ng ≤ maxLen ∧ v.nb ≤ maxLen ∧ v.nr ≤ maxLen) := Lib.hid hs
  have HZ := Lib.hid hz
  have z5 : v.nt ≤ 1048576 := hz.lt
  have Z6 := Lib.hid hz.inn
  have ls := Lib.hid hr.ls
  have lg := Lib.hid hr.lg
  have lb := Lib.hid hr.lb
  have lr := Lib.hid hr.lr
  have lt := Lib.hid hr.lt
  clear hz
  have B0 : Below w.heap.size w (w.alloc (.cells #[.slice v.s v.ns v.cs, .slice v.g v.ng v.cg, .slice v.b v.nb v.cb, .slice v.r v.nr v.cr, .slice v.t v.nt v.ct] 30)) := (Below.refl _ _).alloc (Nat.le_refl _) _
  have k0 : Blk (w.alloc (.cells #[.slice v.s v.ns v.cs, .slice v.g v.ng v.cg, .slice v.b v.nb v.cb, .slice v.r v.nr v.cr, .slice v.t v.nt v.ct] 30)) w.heap.size #[.slice v.s v.ns v.cs, .slice v.g v.ng v.cg, .slice v.b v.nb v.cb, .slice v.r v.nr v.cr, .slice v.t v.nt v.ct] 30 := Blk.new _ _ _
  have q0 : (w.alloc (.cells #[.slice v.s v.ns v.cs, .slice v.g v.ng v.cg, .slice v.b v.nb v.cb, .slice v.r v.nr v.cr, .slice v.t v.nt v.ct] 30)).cell? ⟨w.heap.size, 0, none⟩ = some (.slice v.s v.ns v.cs) := k0.cell 0 rfl
  have q1 : (w.alloc (.cells #[.slice v.s v.ns v.cs, .slice v.g v.ng v.cg, .slice v.b v.nb v.cb, .slice v.r v.nr v.cr, .slice v.t v.nt v.ct] 30)).cell? ⟨w.heap.size, 1, none⟩ = some (.slice v.g v.ng v.cg) := k0.cell 1 rfl
  have q2 : (w.alloc (.cells #[.slice v.s v.ns v.cs, .slice v.g v.ng v.cg, .slice v.b v.nb v.cb, .slice v.r v.nr v.cr, .slice v.t v.nt v.ct] 30)).cell? ⟨w.heap.size, 2, none⟩ = some (.slice v.b v.nb v.cb) := k0.cell 2 rfl
  have q3 : (w.alloc (.cells #[.slice v.s v.ns v.cs, .slice v.g v.ng v.cg, .slice v.b v.nb v.cb, .slice v.r v.nr v.cr, .slice v.t v.nt v.ct] 30)).cell? ⟨w.heap.size, 3, none⟩ = some (.slice v.r v.nr v.cr) := k0.cell 3 rfl
  have q4 : (w.alloc (.cells #[.slice v.s v.ns v.cs, .slice v.g v.ng v.cg, .slice v.b v.nb v.cb, .slice v.r v.nr v.cr, .slice v.t v.nt v.ct] 30)).cell? ⟨w.heap.size, 4, none⟩ = some (.slice v.t v.nt v.ct) := k0.cell 4 rfl
  clear k0
  rcases Bool.eq_false_or_eq_true (progValid p) with hv | hv
  rotate_left
  · have HB : Hid (onlySems p = false) := Lib.hid (by unfold onlySems; rw [hv]; rfl)
    have HV := Lib.hid hv
    clear hv
    go_enter Try.func18, Try.ntmps18
    go_wp2_with fail
    refine (implProgValid_any v p _ (hr.below B0) HZ.out).mono ?_
    rintro e w1 ⟨rfl, hb⟩
    rw [HV.out]
    have B1 := B0.trans (hb.mono B0.size)
    replace q0 := keepc hb q0
    replace q1 := keepc hb q1
    replace q2 := keepc hb q2
    replace q3 := keepc hb q3
    replace q4 := keepc hb q4
    clear hb B0
    go_wp2
    go_ret
    exact ⟨ret_bool (by rw [HB.out]), B1⟩
  have hln := (valid_threads hv).1
  have HV := Lib.hid hv
  clear hv
  go_enter Try.func18, Try.ntmps18
  go_wp2_with fail
  refine (implProgValid_any v p _ (hr.below B0) HZ.out).mono ?_
  rintro e w1 ⟨rfl, hb⟩
  rw [HV.out]
  have B1 := B0.trans (hb.mono B0.size)
  replace q0 := keepc hb q0
  replace q1 := keepc hb q1
  replace q2 := keepc hb q2
  replace q3 := keepc hb q3
  replace q4 := keepc hb q4
  clear hb B0
  go_wp2
  obtain ⟨vs, hT⟩ := hr.rt
  obtain ⟨b1, o1, ea, g1'⟩ := (hT.below B1).thread (by omega)
  rw [ea] at q4
  have HRP : Hid (∀ w', RdP w' v p → RdP w' ⟨v.s, v.ns, v.cs, v.g, v.ng, v.cg, v.b, v.nb, v.cb, v.r, v.nr, v.cr, some ⟨b1, o1, none⟩, v.nt, v.ct⟩ p) := Lib.hid (by rw [← ea]; exact fun _ h => h)
  have G1 := Lib.hid g1'
  rw [ea]
  clear g1' ea hT
  go_loopw [13] (fun i wr => ∃ i' : Nat, i' ≤ v.nt ∧ i = .int .i64 i' ∧ Hid (∀ j, j < i' → ∀ k, k < (p.threads.getD j []).length → onlyOp ((p.threads.getD j []).getD k noOp) = true) ∧ Below w1.heap.size w1 wr) (fun i _ => v.nt - (intOf i).toNat)
  case atStart => exact ⟨0, by omega, rfl, Lib.hid (by omega), Below.refl _ _⟩
  case round =>
    obtain ⟨i, hi, rfl, hall, hb0⟩ := hrel
    have B2 : Below w.heap.size w wr := B1.trans (hb0.mono B1.size)
    by_cases hlt : i < v.nt
    · obtain ⟨wo, hwo⟩ : ∃ wo : World, wo = wr := ⟨_, rfl⟩
      rw [← hwo] at hb0 B2 ⊢
      clear hwo wr
      obtain ⟨a2, x2, g1, r2⟩ := G1.out i (by have := lt.out; omega)
      obtain ⟨m, hm⟩ : ∃ m, m = (p.threads.getD i []).length := ⟨_, rfl⟩
      rw [← hm] at g1
      replace g1 := keepc hb0 g1
      replace r2 := r2.below hb0
      have hmm := Z6.out i
      rw [← hm] at hmm
      have HM := Lib.hid hm
      clear hm
      go_wp2
      go_loopw [19] (fun j wk => ∃ k : Nat, k ≤ m ∧ j = .int .i64 k ∧ Hid (∀ j, j < k → onlyOp ((p.threads.getD i []).getD j noOp) = true) ∧ Below wo.heap.size wo wk) (fun j _ => m - (intOf j).toNat)
      case atStart => exact ⟨0, by omega, rfl, Lib.hid (by omega), Below.refl _ _⟩
      case round =>
        obtain ⟨k, hk, rfl, hok, hbk⟩ := hrel
        have B3 : Below w.heap.size w wr := B2.trans (hbk.mono B2.size)
        have BW : Below w1.heap.size w1 wr := hb0.trans (hbk.mono hb0.size)
        by_cases hkl : k < m
        · skip
          obtain ⟨b2, o2, ea2, g2'⟩ := r2.op (by have := HM.out; omega)
          obtain ⟨g2a, g2b, g2c⟩ := g2' k (by have := HM.out; omega)
          obtain ⟨o, ho⟩ : ∃ o, o = (p.threads.getD i []).getD k noOp := ⟨_, rfl⟩
          rw [← ho] at g2a g2b g2c
          replace g2a := keepc hbk g2a
          replace g2b := keepc hbk g2b
          replace g2c := keepc hbk g2c
          have HO := Lib.hid ho
          subst ea2
          clear g2' ho
          have bA : Below wr.heap.size wr (wr.alloc (.cells #[.int .i64 o.kind, .int .i64 o.on, .int .i64 o.arg] 53)) := (Below.refl _ _).alloc (Nat.le_refl _) _
          by_cases h1 : o.kind = 1
          · have e1 : (o.kind != 1) = false := by simpa using h1
            have HG : Hid (onlyOp o = true) := Lib.hid (by unfold onlyOp; rw [decide_eq_true h1]; rfl)
            go_wp2
            go_roundw
            case rel => exact ⟨k + 1, by omega, by go_num, Lib.hid (fun j hj => by
              rcases Nat.lt_or_ge j k with h | h
              · exact hok.out j h
              · have : j = k := by omega
                subst this
                rw [← HO.out]; exact HG.out), hbk.alloc hbk.size _⟩
            case measure => simp [intOf]; omega
          · have e1 : (o.kind != 1) = true := by simpa using h1
            by_cases h2 : o.kind = 2
            · have e2 : (o.kind != 2) = false := by simpa using h2
              have HG : Hid (onlyOp o = true) := Lib.hid (by unfold onlyOp; rw [decide_eq_true h2]; simp)
              go_wp2
              go_roundw
              case rel => exact ⟨k + 1, by omega, by go_num, Lib.hid (fun j hj => by
              rcases Nat.lt_or_ge j k with h | h
              · exact hok.out j h
              · have : j = k := by omega
                subst this
                rw [← HO.out]; exact HG.out), hbk.alloc hbk.size _⟩
              case measure => simp [intOf]; omega
            · have e2 : (o.kind != 2) = true := by simpa using h2
              by_cases h3 : o.kind = 3
              · have e3 : (o.kind != 3) = false := by simpa using h3
                have HG : Hid (onlyOp o = true) := Lib.hid (by unfold onlyOp; rw [decide_eq_true h3]; simp)
                go_wp2
                go_roundw
                case rel => exact ⟨k + 1, by omega, by go_num, Lib.hid (fun j hj => by
              rcases Nat.lt_or_ge j k with h | h
              · exact hok.out j h
              · have : j = k := by omega
                subst this
                rw [← HO.out]; exact HG.out), hbk.alloc hbk.size _⟩
                case measure => simp [intOf]; omega
              · have e3 : (o.kind != 3) = true := by simpa using h3
                have HB : Hid (onlySems p = false) := Lib.hid (by
                  unfold onlySems
                  rw [all2_bad (i := i) (k := k) (by have := lt.out; omega) (by have := HM.out; omega) (by rw [← HO.out]; unfold onlyOp; rw [decide_eq_false h1, decide_eq_false h2, decide_eq_false h3]; rfl)]; simp)
                go_wp2
                go_ret
                exact ⟨ret_bool (by rw [HB.out]), B3.trans (bA.mono B3.size)⟩
        · have hkm : k = m := by omega
          subst hkm
          go_wp2
          go_roundw
          case rel => exact ⟨i + 1, by omega, by go_num, Lib.hid (fun j hj => by
            rcases Nat.lt_or_ge j i with h | h
            · exact hall.out j h
            · have : j = i := by omega
              subst this
              rw [← HM.out]; exact hok.out), BW⟩
          case measure => simp [intOf]; omega
    · have hkm : i = v.nt := by omega
      subst hkm
      have HB : Hid (onlySems p = true) := Lib.hid (by unfold onlySems; rw [HV.out, all2_good (by rw [lt.out]; exact hall.out)]; rfl)
      go_wp2
      go_ret
      exact ⟨ret_bool (by rw [HB.out]), B2⟩

set_option maxRecDepth 100000 in
set_option maxHeartbeats 2000000 in
theorem specOnlySems_any (v : PV) (p : Pg) (w : World) (hr : RdP w v p) (hz : Small v p) :
    Calls Try.prog 16 #[.agg #[.slice v.s v.ns v.cs, .slice v.g v.ng v.cg, .slice v.b v.nb v.cb, .slice v.r v.nr v.cr, .slice v.t v.nt v.ct]] w fun e w' => e = .returned (.bool (onlySems p)) ∧ Below w.heap.size w w' := by
  have hs : v.ns ≤ maxLen ∧ v.ng ≤ maxLen ∧ v.nb ≤ maxLen ∧ v.nr ≤ maxLen := by
    obtain ⟨z1, z2, z3, z4, z5, z6⟩ := hz; unfold maxLen; omega
  have zz : Hid (v.ns ≤ maxLen ∧ v.ng ≤ maxLen ∧ v.nb ≤ maxLen ∧ v.nr ≤ maxLen) := Lib.hid hs
  have HZ := Lib.hid hz
  have z5 : v.nt ≤ 1048576 := hz.lt
  have Z6 := Lib.hid hz.inn
  have ls := Lib.hid hr.ls
  have lg := Lib.hid hr.lg
  have lb := Lib.hid hr.lb
  have lr := Lib.hid hr.lr
  have lt := Lib.hid hr.lt
  clear hz
  have B0 : Below w.heap.size w (w.alloc (.cells #[.slice v.s v.ns v.cs, .slice v.g v.ng v.cg, .slice v.b v.nb v.cb, .slice v.r v.nr v.cr, .slice v.t v.nt v.ct] 30)) := (Below.refl _ _).alloc (Nat.le_refl _) _
  have k0 : Blk (w.alloc (.cells #[.slice v.s v.ns v.cs, .slice v.g v.ng v.cg, .slice v.b v.nb v.cb, .slice v.r v.nr v.cr, .slice v.t v.nt v.ct] 30)) w.heap.size #[.slice v.s v.ns v.cs, .slice v.g v.ng v.cg, .slice v.b v.nb v.cb, .slice v.r v.nr v.cr, .slice v.t v.nt v.ct] 30 := Blk.new _ _ _
  have q0 : (w.alloc (.cells #[.slice v.s v.ns v.cs, .slice v.g v.ng v.cg, .slice v.b v.nb v.cb, .slice v.r v.nr v.cr, .slice v.t v.nt v.ct] 30)).cell? ⟨w.heap.size, 0, none⟩ = some (.slice v.s v.ns v.cs) := k0.cell 0 rfl
  have q1 : (w.alloc (.cells #[.slice v.s v.ns v.cs, .slice v.g v.ng v.cg, .slice v.b v.nb v.cb, .slice v.r v.nr v.cr, .slice v.t v.nt v.ct] 30)).cell? ⟨w.heap.size, 1, none⟩ = some (.slice v.g v.ng v.cg) := k0.cell 1 rfl
  have q2 : (w.alloc (.cells #[.slice v.s v.ns v.cs, .slice v.g v.ng v.cg, .slice v.b v.nb v.cb, .slice v.r v.nr v.cr, .slice v.t v.nt v.ct] 30)).cell? ⟨w.heap.size, 2, none⟩ = some (.slice v.b v.nb v.cb) := k0.cell 2 rfl
  have q3 : (w.alloc (.cells #[.slice v.s v.ns v.cs, .slice v.g v.ng v.cg, .slice v.b v.nb v.cb, .slice v.r v.nr v.cr, .slice v.t v.nt v.ct] 30)).cell? ⟨w.heap.size, 3, none⟩ = some (.slice v.r v.nr v.cr) := k0.cell 3 rfl
  have q4 : (w.alloc (.cells #[.slice v.s v.ns v.cs, .slice v.g v.ng v.cg, .slice v.b v.nb v.cb, .slice v.r v.nr v.cr, .slice v.t v.nt v.ct] 30)).cell? ⟨w.heap.size, 4, none⟩ = some (.slice v.t v.nt v.ct) := k0.cell 4 rfl
  clear k0
  rcases Bool.eq_false_or_eq_true (progValid p) with hv | hv
  rotate_left
  · have HB : Hid (onlySems p = false) := Lib.hid (by unfold onlySems; rw [hv]; rfl)
    have HV := Lib.hid hv
    clear hv
    go_enter Try.func16, Try.ntmps16
    go_wp2
    obtain ⟨W0, hW0⟩ : ∃ W0 : World, W0 = (w.alloc (.cells #[.slice v.s v.ns v.cs, .slice v.g v.ng v.cg, .slice v.b v.nb v.cb, .slice v.r v.nr v.cr, .slice v.t v.nt v.ct] 30)) := ⟨_, rfl⟩
    rw [← hW0] at B0 q0 q1 q2 q3 q4 ⊢
    clear hW0
    go_loopw [3] (fun i wr => i = .int .i64 0 ∧ wr = W0) (fun i _ => 0)
    case atStart => exact ⟨rfl, rfl⟩
    case round =>
      obtain ⟨rfl, rfl⟩ := hrel
      by_cases h0 : 0 < v.nt
      · have d0 : decide ((0 : Int) < v.nt) = true := decide_eq_true (by omega)
        go_wp2_with fail
        refine (specProgValid_any v p _ (hr.below B0) HZ.out).mono ?_
        rintro e w1 ⟨rfl, hb⟩
        rw [HV.out]
        have B1 := B0.trans (hb.mono B0.size)
        replace q0 := keepc hb q0
        replace q1 := keepc hb q1
        replace q2 := keepc hb q2
        replace q3 := keepc hb q3
        replace q4 := keepc hb q4
        go_wp2_with fail
        refine (specProgValid_any v p _ (hr.below B1) HZ.out).mono ?_
        rintro e w2 ⟨rfl, hb⟩
        rw [HV.out]
        go_wp2
        go_ret
        exact ⟨ret_bool (by rw [HB.out]), B1.trans (hb.mono B1.size)⟩
      · have d0 : decide ((0 : Int) < v.nt) = false := decide_eq_false (by omega)
        go_wp2_with fail
        refine (specProgValid_any v p _ (hr.below B0) HZ.out).mono ?_
        rintro e w1 ⟨rfl, hb⟩
        rw [HV.out]
        go_wp2
        go_ret
        exact ⟨ret_bool (by rw [HB.out]), B0.trans (hb.mono B0.size)⟩
  have hln := (valid_threads hv).1
  have HVO : Hid (∀ i k, i < p.threads.length → k < (p.threads.getD i []).length → opValid p ((p.threads.getD i []).getD k noOp) = true) := Lib.hid (fun i k hi hk => valid_op hv hi hk)
  have HV := Lib.hid hv
  clear hv
  go_enter Try.func16, Try.ntmps16
  go_wp2
  obtain ⟨W0, hW0⟩ : ∃ W0 : World, W0 = (w.alloc (.cells #[.slice v.s v.ns v.cs, .slice v.g v.ng v.cg, .slice v.b v.nb v.cb, .slice v.r v.nr v.cr, .slice v.t v.nt v.ct] 30)) := ⟨_, rfl⟩
  rw [← hW0] at B0 q0 q1 q2 q3 q4 ⊢
  clear hW0
  obtain ⟨vs, hT⟩ := hr.rt
  obtain ⟨b1, o1, ea, g1'⟩ := (hT.below B0).thread (by omega)
  rw [ea] at q4
  have HRP : Hid (∀ w', RdP w' v p → RdP w' ⟨v.s, v.ns, v.cs, v.g, v.ng, v.cg, v.b, v.nb, v.cb, v.r, v.nr, v.cr, some ⟨b1, o1, none⟩, v.nt, v.ct⟩ p) := Lib.hid (by rw [← ea]; exact fun _ h => h)
  have G1 := Lib.hid g1'
  clear g1' ea hT
  go_loopw [3] (fun i wr => ∃ i' : Nat, i' ≤ v.nt ∧ i = .int .i64 i' ∧ Hid (∀ j, j < i' → ∀ k, k < (p.threads.getD j []).length → onlyOp ((p.threads.getD j []).getD k noOp) = true) ∧ Below W0.heap.size W0 wr) (fun i _ => v.nt - (intOf i).toNat)
  case atStart => exact ⟨0, by omega, rfl, Lib.hid (by omega), Below.refl _ _⟩
  case round =>
    obtain ⟨i, hi, rfl, hall, hb0⟩ := hrel
    have B2 : Below w.heap.size w wr := B0.trans (hb0.mono B0.size)
    have c0 := keepc hb0 q0
    have c1 := keepc hb0 q1
    have c2 := keepc hb0 q2
    have c3 := keepc hb0 q3
    have c4 := keepc hb0 q4
    by_cases hlt : i < v.nt
    · have dlt : decide ((i : Int) < v.nt) = true := decide_eq_true (by omega)
      go_wp2_with fail
      refine (specProgValid_any ⟨v.s, v.ns, v.cs, v.g, v.ng, v.cg, v.b, v.nb, v.cb, v.r, v.nr, v.cr, some ⟨b1, o1, none⟩, v.nt, v.ct⟩ p _ (HRP.out _ (hr.below B2)) ⟨HZ.out.ls, HZ.out.lg, HZ.out.lb, HZ.out.lr, HZ.out.lt, HZ.out.inn⟩).mono ?_
      rintro e wo ⟨rfl, hb⟩
      rw [HV.out]
      replace hb0 := hb0.trans (hb.mono hb0.size)
      replace B2 := B2.trans (hb.mono B2.size)
      replace c0 := keepc hb c0
      replace c1 := keepc hb c1
      replace c2 := keepc hb c2
      replace c3 := keepc hb c3
      replace c4 := keepc hb c4
      clear hb wr dlt
      obtain ⟨a2, x2, g1, r2⟩ := G1.out i (by have := lt.out; omega)
      obtain ⟨m, hm⟩ : ∃ m, m = (p.threads.getD i []).length := ⟨_, rfl⟩
      rw [← hm] at g1
      replace g1 := keepc hb0 g1
      replace r2 := r2.below hb0
      have hmm := Z6.out i
      rw [← hm] at hmm
      have HM := Lib.hid hm
      clear hm
      go_wp2
      go_loopw [4] (fun j wk => ∃ k : Nat, k ≤ m ∧ j = .int .i64 k ∧ Hid (∀ j, j < k → onlyOp ((p.threads.getD i []).getD j noOp) = true) ∧ wk = wo) (fun j _ => m - (intOf j).toNat)
      case atStart => exact ⟨0, by omega, rfl, Lib.hid (by omega), rfl⟩
      case round =>
        obtain ⟨k, hk, rfl, hok, rfl⟩ := hrel
        by_cases hkl : k < m
        · skip
          obtain ⟨b2, o2, ea2, g2'⟩ := r2.op (by have := HM.out; omega)
          obtain ⟨g2a, g2b, g2c⟩ := g2' k (by have := HM.out; omega)
          obtain ⟨o, ho⟩ : ∃ o, o = (p.threads.getD i []).getD k noOp := ⟨_, rfl⟩
          rw [← ho] at g2a g2b g2c
          replace g2a := g2a
          replace g2b := g2b
          replace g2c := g2c
          have HO := Lib.hid ho
          subst ea2
          clear g2' ho
          have h1 := (opValid_facts (HVO.out i k (by have := lt.out; omega) (by have := HM.out; omega))).1.1
          rw [← HO.out] at h1
          by_cases h3 : 3 < o.kind
          · have d3 : decide (3 < o.kind) = true := decide_eq_true h3
            have HB : Hid (onlySems p = false) := Lib.hid (by
              unfold onlySems
              rw [all2_bad (i := i) (k := k) (by have := lt.out; omega) (by have := HM.out; omega) (by rw [← HO.out]; unfold onlyOp; rw [decide_eq_false (by omega), decide_eq_false (by omega), decide_eq_false (by omega)]; rfl)]; simp)
            go_wp2
            go_ret
            exact ⟨ret_bool (by rw [HB.out]), B2⟩
          · have d3 : decide (3 < o.kind) = false := decide_eq_false h3
            have HG : Hid (onlyOp o = true) := Lib.hid (by
              unfold onlyOp
              have : o.kind = 1 ∨ o.kind = 2 ∨ o.kind = 3 := by omega
              rcases this with h | h | h <;> rw [h] <;> rfl)
            go_wp2
            go_roundw
            case rel => exact ⟨k + 1, by omega, by go_num, Lib.hid (fun j hj => by
              rcases Nat.lt_or_ge j k with h | h
              · exact hok.out j h
              · have : j = k := by omega
                subst this
                rw [← HO.out]; exact HG.out), trivial⟩
            case measure => simp [intOf]; omega
        · have hkm : k = m := by omega
          subst hkm
          go_wp2
          go_roundw
          case rel => exact ⟨i + 1, by omega, by go_num, Lib.hid (fun j hj => by
            rcases Nat.lt_or_ge j i with h | h
            · exact hall.out j h
            · have : j = i := by omega
              subst this
              rw [← HM.out]; exact hok.out), hb0⟩
          case measure => simp [intOf]; omega
    · have dlt : decide ((i : Int) < v.nt) = false := decide_eq_false (by omega)
      have hkm : i = v.nt := by omega
      subst hkm
      have HB : Hid (onlySems p = true) := Lib.hid (by unfold onlySems; rw [HV.out, all2_good (by rw [lt.out]; exact hall.out)]; rfl)
      go_wp2_with fail
      refine (specProgValid_any ⟨v.s, v.ns, v.cs, v.g, v.ng, v.cg, v.b, v.nb, v.cb, v.r, v.nr, v.cr, some ⟨b1, o1, none⟩, v.nt, v.ct⟩ p _ (HRP.out _ (hr.below B2)) ⟨HZ.out.ls, HZ.out.lg, HZ.out.lb, HZ.out.lr, HZ.out.lt, HZ.out.inn⟩).mono ?_
      rintro e we ⟨rfl, hb⟩
      rw [HV.out]
      go_wp2
      go_ret
      exact ⟨ret_bool (by rw [HB.out]), B2.trans (hb.mono B2.size)⟩

end Go.Proofs.Ytnobkdkfhgjeeaa
