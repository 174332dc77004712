/- Which programs are valid: the reference's own text. -/
import Derived.Test.YtnobkdkfhgjeeabSpecNum
import Derived.Test.YtnobkdkfhgjeeabPgmEq
namespace Go.Proofs.Ytnobkdkfhgjeeab
open Go.RowKit Go.Sort

theorem thread_bad {p : Pg} {i k : Nat} (hi : i < p.threads.length) (hk : k < (p.threads.getD i []).length) (h : opValid p ((p.threads.getD i []).getD k noOp) = false) : progValid p = false := by
  have : p.threads.all (fun t => decide (t.length ≤ 8) && t.all (opValid p)) = false := by
    rw [List.all_eq_false]
    have e : p.threads.getD i [] = p.threads[i] := by simp [List.getD, hi]
    rw [e] at hk h
    refine ⟨p.threads[i], List.getElem_mem hi, ?_⟩
    have e2 : (p.threads[i]).getD k noOp = (p.threads[i])[k] := by simp [List.getD, hk]
    rw [e2] at h
    have : (p.threads[i]).all (opValid p) = false := by
      rw [List.all_eq_false]; exact ⟨_, List.getElem_mem hk, by rw [h]; simp⟩
    rw [this]; simp
  unfold progValid; rw [this]; simp
theorem thread_long {p : Pg} {i : Nat} (hi : i < p.threads.length) (h : 8 < (p.threads.getD i []).length) : progValid p = false := by
  have : p.threads.all (fun t => decide (t.length ≤ 8) && t.all (opValid p)) = false := by
    rw [List.all_eq_false]
    have e : p.threads.getD i [] = p.threads[i] := by simp [List.getD, hi]
    rw [e] at h
    exact ⟨p.threads[i], List.getElem_mem hi, by rw [show decide ((p.threads[i]).length ≤ 8) = false by simp; omega]; simp⟩
  unfold progValid; rw [this]; simp
theorem threads_good {p : Pg} (h1 : within p.sems 1 9 = true) (h2 : within p.groups 0 9 = true) (h3 : within p.barriers 1 6 = true) (h4 : within p.rooms 0 4 = true) (h5 : 1 ≤ p.threads.length) (h6 : p.threads.length ≤ 4)
    (h : ∀ i, i < p.threads.length → (p.threads.getD i []).length ≤ 8 ∧ ∀ k, k < (p.threads.getD i []).length → opValid p ((p.threads.getD i []).getD k noOp) = true) : progValid p = true := by
  have : p.threads.all (fun t => decide (t.length ≤ 8) && t.all (opValid p)) = true := by
    rw [List.all_eq_true]
    intro t ht
    obtain ⟨i, hi, rfl⟩ := List.getElem_of_mem ht
    have e : p.threads.getD i [] = p.threads[i] := by simp [List.getD, hi]
    have := h i hi
    rw [e] at this
    have h2 : (p.threads[i]).all (opValid p) = true := by
      rw [List.all_eq_true]
      intro o ho
      obtain ⟨k, hk, rfl⟩ := List.getElem_of_mem ho
      have e2 : (p.threads[i]).getD k noOp = (p.threads[i])[k] := by simp [List.getD, hk]
      rw [← e2]; exact this.2 k hk
    rw [h2]; simp [this.1]
  unfold progValid
  rw [h1, h2, h3, h4, this]; simp; omega

set_option maxRecDepth 100000 in
set_option maxHeartbeats 2000000 in
theorem specProgValid_any (v : PV) (p : Pg) (w : World) (hr : RdP w v p) (hz : Small v p) :
    Calls Try.prog 71 #[.agg #[.slice v.s v.ns v.cs, .slice v.g v.ng v.cg, .slice v.b v.nb v.cb, .slice v.r v.nr v.cr, .slice v.t v.nt v.ct]] w fun e w' => e = .returned (.bool (progValid p)) ∧ Below w.heap.size w w' := by
  have hs : v.ns ≤ maxLen ∧ v.ng ≤ maxLen ∧ v.nb ≤ maxLen ∧ v.nr ≤ maxLen := by
    obtain ⟨z1, z2, z3, z4, z5, z6⟩ := hz; unfold maxLen; omega
  have zz : Hid (v.ns ≤ maxLen ∧ v.ng ≤ maxLen ∧ v.nb ≤ maxLen ∧ v.nr ≤ maxLen) := Lib.hid hs
  have z5 : v.nt ≤ 1048576 := hz.lt
  have Z6 := Lib.hid hz.inn
  have ls := Lib.hid hr.ls
  have lg := Lib.hid hr.lg
  have lb := Lib.hid hr.lb
  have lr := Lib.hid hr.lr
  have lt := Lib.hid hr.lt
  clear hz
  have b0 : Below w.heap.size w (w.alloc (.cells #[.slice v.s v.ns v.cs, .slice v.g v.ng v.cg, .slice v.b v.nb v.cb, .slice v.r v.nr v.cr, .slice v.t v.nt v.ct] 26)) := (Below.refl _ _).alloc (Nat.le_refl _) _
  rcases Bool.eq_false_or_eq_true (within p.sems 1 9) with h1 | h1
  rotate_left
  · have HB : Hid (progValid p = false) := Lib.hid (by unfold progValid; rw [h1]; simp)
    replace h1 := Lib.hid h1
    go_enter Try.func71, Try.ntmps71
    go_wp2_with fail
    refine (l6Numbers_any v.s v.ns v.cs p.sems 1 9 _ ls.out (by have := zz.out; omega) (hr.rs.below b0)).mono ?_
    rintro e w1 ⟨rfl, rfl⟩
    rw [h1.out]
    go_wp2
    go_ret
    exact ⟨ret_bool (by rw [HB.out]), b0⟩
  replace h1 := Lib.hid h1
  rcases Bool.eq_false_or_eq_true (within p.groups 0 9) with h2 | h2
  rotate_left
  · have HB : Hid (progValid p = false) := Lib.hid (by unfold progValid; rw [h2]; simp)
    replace h2 := Lib.hid h2
    go_enter Try.func71, Try.ntmps71
    go_wp2_with fail
    refine (l6Numbers_any v.s v.ns v.cs p.sems 1 9 _ ls.out (by have := zz.out; omega) (hr.rs.below b0)).mono ?_
    rintro e w1 ⟨rfl, rfl⟩
    rw [h1.out]
    go_wp2_with fail
    refine (l6Numbers_any v.g v.ng v.cg p.groups 0 9 _ lg.out (by have := zz.out; omega) (hr.rg.below b0)).mono ?_
    rintro e w2 ⟨rfl, rfl⟩
    rw [h2.out]
    go_wp2
    go_ret
    exact ⟨ret_bool (by rw [HB.out]), b0⟩
  replace h2 := Lib.hid h2
  rcases Bool.eq_false_or_eq_true (within p.barriers 1 6) with h3 | h3
  rotate_left
  · have HB : Hid (progValid p = false) := Lib.hid (by unfold progValid; rw [h3]; simp)
    replace h3 := Lib.hid h3
    go_enter Try.func71, Try.ntmps71
    go_wp2_with fail
    refine (l6Numbers_any v.s v.ns v.cs p.sems 1 9 _ ls.out (by have := zz.out; omega) (hr.rs.below b0)).mono ?_
    rintro e w1 ⟨rfl, rfl⟩
    rw [h1.out]
    go_wp2_with fail
    refine (l6Numbers_any v.g v.ng v.cg p.groups 0 9 _ lg.out (by have := zz.out; omega) (hr.rg.below b0)).mono ?_
    rintro e w2 ⟨rfl, rfl⟩
    rw [h2.out]
    go_wp2_with fail
    refine (l6Numbers_any v.b v.nb v.cb p.barriers 1 6 _ lb.out (by have := zz.out; omega) (hr.rb.below b0)).mono ?_
    rintro e w3 ⟨rfl, rfl⟩
    rw [h3.out]
    go_wp2
    go_ret
    exact ⟨ret_bool (by rw [HB.out]), b0⟩
  replace h3 := Lib.hid h3
  rcases Bool.eq_false_or_eq_true (within p.rooms 0 4) with h4 | h4
  rotate_left
  · have HB : Hid (progValid p = false) := Lib.hid (by unfold progValid; rw [h4]; simp)
    replace h4 := Lib.hid h4
    go_enter Try.func71, Try.ntmps71
    go_wp2_with fail
    refine (l6Numbers_any v.s v.ns v.cs p.sems 1 9 _ ls.out (by have := zz.out; omega) (hr.rs.below b0)).mono ?_
    rintro e w1 ⟨rfl, rfl⟩
    rw [h1.out]
    go_wp2_with fail
    refine (l6Numbers_any v.g v.ng v.cg p.groups 0 9 _ lg.out (by have := zz.out; omega) (hr.rg.below b0)).mono ?_
    rintro e w2 ⟨rfl, rfl⟩
    rw [h2.out]
    go_wp2_with fail
    refine (l6Numbers_any v.b v.nb v.cb p.barriers 1 6 _ lb.out (by have := zz.out; omega) (hr.rb.below b0)).mono ?_
    rintro e w3 ⟨rfl, rfl⟩
    rw [h3.out]
    go_wp2_with fail
    refine (l6Numbers_any v.r v.nr v.cr p.rooms 0 4 _ lr.out (by have := zz.out; omega) (hr.rr.below b0)).mono ?_
    rintro e w4 ⟨rfl, rfl⟩
    rw [h4.out]
    go_wp2
    go_ret
    exact ⟨ret_bool (by rw [HB.out]), b0⟩
  replace h4 := Lib.hid h4
  by_cases h5 : v.nt < 1
  · have HB : Hid (progValid p = false) := Lib.hid (by
      have := lt.out
      unfold progValid
      rw [show decide (1 ≤ p.threads.length) = false from decide_eq_false (by omega)]; simp)
    have t5 : decide ((v.nt : Int) < 1) = true := by simp; omega
    go_enter Try.func71, Try.ntmps71
    go_wp2_with fail
    refine (l6Numbers_any v.s v.ns v.cs p.sems 1 9 _ ls.out (by have := zz.out; omega) (hr.rs.below b0)).mono ?_
    rintro e w1 ⟨rfl, rfl⟩
    rw [h1.out]
    go_wp2_with fail
    refine (l6Numbers_any v.g v.ng v.cg p.groups 0 9 _ lg.out (by have := zz.out; omega) (hr.rg.below b0)).mono ?_
    rintro e w2 ⟨rfl, rfl⟩
    rw [h2.out]
    go_wp2_with fail
    refine (l6Numbers_any v.b v.nb v.cb p.barriers 1 6 _ lb.out (by have := zz.out; omega) (hr.rb.below b0)).mono ?_
    rintro e w3 ⟨rfl, rfl⟩
    rw [h3.out]
    go_wp2_with fail
    refine (l6Numbers_any v.r v.nr v.cr p.rooms 0 4 _ lr.out (by have := zz.out; omega) (hr.rr.below b0)).mono ?_
    rintro e w4 ⟨rfl, rfl⟩
    rw [h4.out]
    go_wp2
    go_ret
    exact ⟨ret_bool (by rw [HB.out]), b0⟩
  have t5 : decide ((v.nt : Int) < 1) = false := by simp; omega
  by_cases h6 : 4 < v.nt
  · have HB : Hid (progValid p = false) := Lib.hid (by
      have := lt.out
      unfold progValid
      rw [show decide (p.threads.length ≤ 4) = false from decide_eq_false (by omega)]; simp)
    have t6 : decide ((4 : Int) < v.nt) = true := by simp; omega
    go_enter Try.func71, Try.ntmps71
    go_wp2_with fail
    refine (l6Numbers_any v.s v.ns v.cs p.sems 1 9 _ ls.out (by have := zz.out; omega) (hr.rs.below b0)).mono ?_
    rintro e w1 ⟨rfl, rfl⟩
    rw [h1.out]
    go_wp2_with fail
    refine (l6Numbers_any v.g v.ng v.cg p.groups 0 9 _ lg.out (by have := zz.out; omega) (hr.rg.below b0)).mono ?_
    rintro e w2 ⟨rfl, rfl⟩
    rw [h2.out]
    go_wp2_with fail
    refine (l6Numbers_any v.b v.nb v.cb p.barriers 1 6 _ lb.out (by have := zz.out; omega) (hr.rb.below b0)).mono ?_
    rintro e w3 ⟨rfl, rfl⟩
    rw [h3.out]
    go_wp2_with fail
    refine (l6Numbers_any v.r v.nr v.cr p.rooms 0 4 _ lr.out (by have := zz.out; omega) (hr.rr.below b0)).mono ?_
    rintro e w4 ⟨rfl, rfl⟩
    rw [h4.out]
    go_wp2
    go_ret
    exact ⟨ret_bool (by rw [HB.out]), b0⟩
  have t6 : decide ((4 : Int) < v.nt) = false := by simp; omega
  obtain ⟨vs, hT⟩ := hr.rt
  have kP : Blk (w.alloc (.cells #[.slice v.s v.ns v.cs, .slice v.g v.ng v.cg, .slice v.b v.nb v.cb, .slice v.r v.nr v.cr, .slice v.t v.nt v.ct] 26)) w.heap.size #[.slice v.s v.ns v.cs, .slice v.g v.ng v.cg, .slice v.b v.nb v.cb, .slice v.r v.nr v.cr, .slice v.t v.nt v.ct] 26 := Blk.new _ _ _
  go_enter Try.func71, Try.ntmps71
  go_wp2_with fail
  refine (l6Numbers_any v.s v.ns v.cs p.sems 1 9 _ ls.out (by have := zz.out; omega) (hr.rs.below b0)).mono ?_
  rintro e w1 ⟨rfl, rfl⟩
  rw [h1.out]
  go_wp2_with fail
  refine (l6Numbers_any v.g v.ng v.cg p.groups 0 9 _ lg.out (by have := zz.out; omega) (hr.rg.below b0)).mono ?_
  rintro e w2 ⟨rfl, rfl⟩
  rw [h2.out]
  go_wp2_with fail
  refine (l6Numbers_any v.b v.nb v.cb p.barriers 1 6 _ lb.out (by have := zz.out; omega) (hr.rb.below b0)).mono ?_
  rintro e w3 ⟨rfl, rfl⟩
  rw [h3.out]
  go_wp2_with fail
  refine (l6Numbers_any v.r v.nr v.cr p.rooms 0 4 _ lr.out (by have := zz.out; omega) (hr.rr.below b0)).mono ?_
  rintro e w4 ⟨rfl, rfl⟩
  rw [h4.out]
  go_wp2
  obtain ⟨W, hW⟩ : ∃ W : World, W = (w.alloc (.cells #[.slice v.s v.ns v.cs, .slice v.g v.ng v.cg, .slice v.b v.nb v.cb, .slice v.r v.nr v.cr, .slice v.t v.nt v.ct] 26)) := ⟨_, rfl⟩
  have hsz : w.heap.size < W.heap.size := by rw [hW]; simp
  rw [← hW] at kP b0 ⊢
  clear hW
  go_loopw [3] (fun i wr => ∃ i' : Nat, i' ≤ v.nt ∧ i = .int .i64 i' ∧ Hid (∀ j, j < i' → (p.threads.getD j []).length ≤ 8 ∧ ∀ k, k < (p.threads.getD j []).length → opValid p ((p.threads.getD j []).getD k noOp) = true) ∧ Below W.heap.size W wr) (fun i _ => v.nt - (intOf i).toNat)
  case atStart => exact ⟨0, by omega, rfl, Lib.hid (by omega), Below.refl _ _⟩
  case round =>
    obtain ⟨i, hi, rfl, hall, hb0⟩ := hrel
    have k1 := kP.below hb0
    have c0 := k1.cell 0 rfl
    have c1 := k1.cell 1 rfl
    have c2 := k1.cell 2 rfl
    have c3 := k1.cell 3 rfl
    have c4 := k1.cell 4 rfl
    have B0 : Below w.heap.size w wr := b0.trans (hb0.mono (Nat.le_of_lt hsz))
    by_cases hlt : i < v.nt
    · obtain ⟨wo, hwo⟩ : ∃ wo : World, wo = wr := ⟨_, rfl⟩
      rw [← hwo] at hb0 k1 c0 c1 c2 c3 c4 B0 ⊢
      clear hwo wr
      obtain ⟨b1, o1, ea, g1'⟩ := (hT.below B0).thread (by have := lt.out; omega)
      obtain ⟨a2, x2, g1, r2⟩ := g1' i (by have := lt.out; omega)
      obtain ⟨m, hm⟩ : ∃ m, m = (p.threads.getD i []).length := ⟨_, rfl⟩
      rw [← hm] at g1
      have hmm := Z6.out i
      rw [← hm] at hmm
      have HM := Lib.hid hm
      rw [ea] at c4
      have HRP : Hid (∀ w', RdP w' v p → RdP w' ⟨v.s, v.ns, v.cs, v.g, v.ng, v.cg, v.b, v.nb, v.cb, v.r, v.nr, v.cr, some ⟨b1, o1, none⟩, v.nt, v.ct⟩ p) := Lib.hid (by rw [← ea]; exact fun _ h => h)
      clear g1' hm ea
      go_wp2
      go_loopw [4] (fun j wk => ∃ k : Nat, k ≤ m ∧ k ≤ 9 ∧ j = .int .i64 k ∧ Hid (∀ j, j < k → opValid p ((p.threads.getD i []).getD j noOp) = true) ∧ Below wo.heap.size wo wk) (fun j _ => m - (intOf j).toNat)
      case atStart => exact ⟨0, by omega, by omega, rfl, Lib.hid (by omega), Below.refl _ _⟩
      case round =>
        obtain ⟨k, hk, hk9, rfl, hok, hbk⟩ := hrel
        have d0 := keepc hbk c0
        have d1 := keepc hbk c1
        have d2 := keepc hbk c2
        have d3 := keepc hbk c3
        have d4 := keepc hbk c4
        have f1 := keepc hbk g1
        have B1 : Below w.heap.size w wr := B0.trans (hbk.mono B0.size)
        have BW : Below W.heap.size W wr := hb0.trans (hbk.mono hb0.size)
        by_cases hkl : k < m
        · by_cases hk8 : k ≤ 8
          · obtain ⟨b2, o2, ea2, g2'⟩ := r2.op (by have := HM.out; omega)
            obtain ⟨g2a, g2b, g2c⟩ := g2' k (by have := HM.out; omega)
            obtain ⟨o, ho⟩ : ∃ o, o = (p.threads.getD i []).getD k noOp := ⟨_, rfl⟩
            rw [← ho] at g2a g2b g2c
            replace g2a := keepc hbk g2a
            replace g2b := keepc hbk g2b
            replace g2c := keepc hbk g2c
            have HO := Lib.hid ho
            rw [ea2] at f1
            clear g2' ho ea2
            have kd0 := cell_regrown d0
            have kd1 := cell_regrown d1
            have kd2 := cell_regrown d2
            have kd3 := cell_regrown d3
            have kd4 := cell_regrown d4
            have kf1 := cell_regrown f1
            have kg2a := cell_regrown g2a
            have kg2b := cell_regrown g2b
            have kg2c := cell_regrown g2c
            have e8 : decide ((k : Int) ≤ 8) = true := by simp; omega
            rcases Bool.eq_false_or_eq_true (opValid p o) with hv | hv
            · have HV := Lib.hid hv
              have cV : Hid (∀ d os, Calls Try.prog 51 #[.agg #[.slice v.s v.ns v.cs, .slice v.g v.ng v.cg, .slice v.b v.nb v.cb, .slice v.r v.nr v.cr, .slice (some ⟨b1, o1, none⟩) v.nt v.ct], .agg #[.int .i64 o.kind, .int .i64 o.on, .int .i64 o.arg]] (grow (redrawn wr d) os) fun e w'' => e = .returned (.bool true) ∧ ∃ p : Regrown, w'' = grow (redrawn wr p.d) p.os) := Lib.hid (fun d os => Calls.regrown_of (by
                have := specOpValid_any ⟨v.s, v.ns, v.cs, v.g, v.ng, v.cg, v.b, v.nb, v.cb, v.r, v.nr, v.cr, some ⟨b1, o1, none⟩, v.nt, v.ct⟩ p o (grow (redrawn wr d) os) (HRP.out _ ((hr.below B1).below (below_regrown wr d os))) zz.out; rw [hv] at this; exact this))
              clear hv
              go_wp2
              refine wp_region_quiet_below (by kernel_rfl) (by kernel_rfl) ?_
              repeat (go_big_quiet_step (exact cV.out _ _))
              refine wpQuiet_nil ?_
              intro w6 hw6
              have hbw : Below wr.heap.size wr w6 := by
                obtain ⟨pq, rfl⟩ := hw6
                exact below_regrown _ _ _
              clear hw6
              go_wp2
              go_roundw
              case rel => exact ⟨k + 1, by omega, by omega, by go_num, Lib.hid (fun j hj => by
                rcases Nat.lt_or_ge j k with h | h
                · exact hok.out j h
                · have : j = k := by omega
                  subst this
                  rw [← HO.out]; exact HV.out), hbk.trans (hbw.mono hbk.size)⟩
              case measure => simp [intOf]; omega
            · have HV := Lib.hid hv
              have cV : Hid (∀ d os, Calls Try.prog 51 #[.agg #[.slice v.s v.ns v.cs, .slice v.g v.ng v.cg, .slice v.b v.nb v.cb, .slice v.r v.nr v.cr, .slice (some ⟨b1, o1, none⟩) v.nt v.ct], .agg #[.int .i64 o.kind, .int .i64 o.on, .int .i64 o.arg]] (grow (redrawn wr d) os) fun e w'' => e = .returned (.bool false) ∧ ∃ p : Regrown, w'' = grow (redrawn wr p.d) p.os) := Lib.hid (fun d os => Calls.regrown_of (by
                have := specOpValid_any ⟨v.s, v.ns, v.cs, v.g, v.ng, v.cg, v.b, v.nb, v.cb, v.r, v.nr, v.cr, some ⟨b1, o1, none⟩, v.nt, v.ct⟩ p o (grow (redrawn wr d) os) (HRP.out _ ((hr.below B1).below (below_regrown wr d os))) zz.out; rw [hv] at this; exact this))
              clear hv
              have HB : Hid (progValid p = false) := Lib.hid (thread_bad (i := i) (k := k) (by have := lt.out; omega) (by have := HM.out; omega) (by rw [← HO.out]; exact HV.out))
              go_wp2
              refine wp_region_quiet_below (by kernel_rfl) (by kernel_rfl) ?_
              repeat (go_big_quiet_step (exact cV.out _ _))
              refine wpQuiet_nil ?_
              intro w6 hw6
              have hbw : Below wr.heap.size wr w6 := by
                obtain ⟨pq, rfl⟩ := hw6
                exact below_regrown _ _ _
              clear hw6
              go_wp2
              go_ret
              exact ⟨ret_bool (by rw [HB.out]), B1.trans (hbw.mono B1.size)⟩
          · have e8 : decide ((k : Int) ≤ 8) = false := by simp; omega
            have e9 : decide ((8 : Int) < m) = true := by simp; omega
            have HB : Hid (progValid p = false) := Lib.hid (thread_long (i := i) (by have := lt.out; omega) (by have := HM.out; omega))
            go_wp2
            go_ret
            exact ⟨ret_bool (by rw [HB.out]), B1⟩
        · have hkm : k = m := by omega
          subst hkm
          by_cases hm8 : 8 < k
          · have e9 : decide ((8 : Int) < k) = true := by simp; omega
            have HB : Hid (progValid p = false) := Lib.hid (thread_long (i := i) (by have := lt.out; omega) (by have := HM.out; omega))
            go_wp2
            go_ret
            exact ⟨ret_bool (by rw [HB.out]), B1⟩
          · have e9 : decide ((8 : Int) < k) = false := by simp; omega
            go_wp2
            go_roundw
            case rel => exact ⟨i + 1, by omega, by go_num, Lib.hid (fun j hj => by
              rcases Nat.lt_or_ge j i with h | h
              · exact hall.out j h
              · have : j = i := by omega
                subst this
                exact ⟨by rw [← HM.out]; omega, by rw [← HM.out]; exact hok.out⟩), BW⟩
            case measure => simp [intOf]; omega
    · have hkm : i = v.nt := by omega
      subst hkm
      have HB : Hid (progValid p = true) := Lib.hid (threads_good h1.out h2.out h3.out h4.out (by have := lt.out; omega) (by have := lt.out; omega) (by rw [lt.out]; exact hall.out))
      go_wp2
      go_ret
      exact ⟨ret_bool (by rw [HB.out]), B0⟩

end Go.Proofs.Ytnobkdkfhgjeeab
