/- IsBalanced: the program. -/
import Derived.Test.YtnobkdkfhgjeeabBaseB
import Derived.StillTailTactics
namespace Go.Proofs.Ytnobkdkfhgjeeab
open Go.RowKit

theorem nonZero_any (x : Int) (w : World) :
    Calls Try.prog 65 (#[.int .i64 x] ++ #[]) w fun e w' => e = .returned (.bool (!(decide (x = 0)))) ∧ w' = w := by
  go_enter Try.func65, Try.ntmps65
  go_wp2
  go_ret
  exact ⟨rfl, rfl⟩

set_option maxRecDepth 100000 in
set_option maxHeartbeats 4000000 in
theorem implIsBalanced_any (v : PV) (p : Pg) (w : World) (hr : RdP w v p) (hz : Small v p) :
    Calls Try.prog 25 #[.agg #[.slice v.s v.ns v.cs, .slice v.g v.ng v.cg, .slice v.b v.nb v.cb, .slice v.r v.nr v.cr, .slice v.t v.nt v.ct]] w fun e w' => e = .returned (.bool (isBalanced p)) ∧ Below w.heap.size w w' := by
  have hs : v.ns ≤ maxLen ∧ v.ng ≤ maxLen ∧ v.nb ≤ maxLen ∧ v.nr ≤ maxLen := by
    obtain ⟨z1, z2, z3, z4, z5, z6⟩ := hz; unfold maxLen; omega
  have zz : Hid (v.ns ≤ maxLen ∧ v.ng ≤ maxLen ∧ v.nb ≤ maxLen ∧ v.nr ≤ maxLen) := Lib.hid hs
  have HZ := Lib.hid hz
  have z5 : v.nt ≤ 1048576 := hz.lt
  have Z6 := Lib.hid hz.inn
  have ls := Lib.hid hr.ls
  have lg := Lib.hid hr.lg
  have lb := Lib.hid hr.lb
  have lr := Lib.hid hr.lr
  have lt := Lib.hid hr.lt
  clear hz
  have B0 : Below w.heap.size w (w.alloc (.cells #[.slice v.s v.ns v.cs, .slice v.g v.ng v.cg, .slice v.b v.nb v.cb, .slice v.r v.nr v.cr, .slice v.t v.nt v.ct] 26)) := (Below.refl _ _).alloc (Nat.le_refl _) _
  have k0 : Blk (w.alloc (.cells #[.slice v.s v.ns v.cs, .slice v.g v.ng v.cg, .slice v.b v.nb v.cb, .slice v.r v.nr v.cr, .slice v.t v.nt v.ct] 26)) w.heap.size #[.slice v.s v.ns v.cs, .slice v.g v.ng v.cg, .slice v.b v.nb v.cb, .slice v.r v.nr v.cr, .slice v.t v.nt v.ct] 26 := Blk.new _ _ _
  have q0 : (w.alloc (.cells #[.slice v.s v.ns v.cs, .slice v.g v.ng v.cg, .slice v.b v.nb v.cb, .slice v.r v.nr v.cr, .slice v.t v.nt v.ct] 26)).cell? ⟨w.heap.size, 0, none⟩ = some (.slice v.s v.ns v.cs) := k0.cell 0 rfl
  have q1 : (w.alloc (.cells #[.slice v.s v.ns v.cs, .slice v.g v.ng v.cg, .slice v.b v.nb v.cb, .slice v.r v.nr v.cr, .slice v.t v.nt v.ct] 26)).cell? ⟨w.heap.size, 1, none⟩ = some (.slice v.g v.ng v.cg) := k0.cell 1 rfl
  have q2 : (w.alloc (.cells #[.slice v.s v.ns v.cs, .slice v.g v.ng v.cg, .slice v.b v.nb v.cb, .slice v.r v.nr v.cr, .slice v.t v.nt v.ct] 26)).cell? ⟨w.heap.size, 2, none⟩ = some (.slice v.b v.nb v.cb) := k0.cell 2 rfl
  have q3 : (w.alloc (.cells #[.slice v.s v.ns v.cs, .slice v.g v.ng v.cg, .slice v.b v.nb v.cb, .slice v.r v.nr v.cr, .slice v.t v.nt v.ct] 26)).cell? ⟨w.heap.size, 3, none⟩ = some (.slice v.r v.nr v.cr) := k0.cell 3 rfl
  have q4 : (w.alloc (.cells #[.slice v.s v.ns v.cs, .slice v.g v.ng v.cg, .slice v.b v.nb v.cb, .slice v.r v.nr v.cr, .slice v.t v.nt v.ct] 26)).cell? ⟨w.heap.size, 4, none⟩ = some (.slice v.t v.nt v.ct) := k0.cell 4 rfl
  clear k0
  obtain ⟨i0, hi0, hz0, hz1, hz2⟩ := info_parts info_int
  rcases Bool.eq_false_or_eq_true (progValid p) with hv | hv
  rotate_left
  · have HB : Hid (isBalanced p = false) := Lib.hid (by unfold isBalanced; rw [hv]; rfl)
    have HV := Lib.hid hv
    clear hv
    go_enter Try.func25, Try.ntmps25
    go_wp2_with fail
    refine (implProgValid_any v p _ (hr.below B0) HZ.out).mono ?_
    rintro e w1 ⟨rfl, hb⟩
    rw [HV.out]
    have B1 := B0.trans (hb.mono B0.size)
    replace q0 := keepc hb q0
    replace q1 := keepc hb q1
    replace q2 := keepc hb q2
    replace q3 := keepc hb q3
    replace q4 := keepc hb q4
    clear hb B0
    go_wp2
    go_ret
    exact ⟨ret_bool (by rw [HB.out]), B1⟩
  have hln := (valid_threads hv).1
  have HVO : Hid (∀ i k, i < p.threads.length → k < (p.threads.getD i []).length → opValid p ((p.threads.getD i []).getD k noOp) = true) := Lib.hid (fun i k hi hk => valid_op hv hi hk)
  have HV := Lib.hid hv
  clear hv
  go_enter Try.func25, Try.ntmps25
  go_wp2_with fail
  refine (implProgValid_any v p _ (hr.below B0) HZ.out).mono ?_
  rintro e w1 ⟨rfl, hb⟩
  rw [HV.out]
  have B1 := B0.trans (hb.mono B0.size)
  replace q0 := keepc hb q0
  replace q1 := keepc hb q1
  replace q2 := keepc hb q2
  replace q3 := keepc hb q3
  replace q4 := keepc hb q4
  clear hb B0
  go_wp2
  obtain ⟨vs, hT⟩ := hr.rt
  obtain ⟨b1, o1, ea, g1'⟩ := (hT.below B1).thread (by omega)
  rw [ea] at q4
  have HRP : Hid (∀ w', RdP w' v p → RdP w' ⟨v.s, v.ns, v.cs, v.g, v.ng, v.cg, v.b, v.nb, v.cb, v.r, v.nr, v.cr, some ⟨b1, o1, none⟩, v.nt, v.ct⟩ p) := Lib.hid (by rw [← ea]; exact fun _ h => h)
  have G1 := Lib.hid g1'
  rw [ea]
  clear g1' ea hT
  go_loopw [14] (fun i wr => ∃ i' : Nat, i' ≤ v.nt ∧ i = .int .i64 i' ∧ Hid (∀ j, j < i' → balThread p.sems.length (p.threads.getD j []) = true) ∧ Below w1.heap.size w1 wr) (fun i _ => v.nt - (intOf i).toNat)
  case atStart => exact ⟨0, by omega, rfl, Lib.hid (by omega), Below.refl _ _⟩
  case round =>
    obtain ⟨i, hi, rfl, hall, hb0⟩ := hrel
    have B2 : Below w.heap.size w wr := B1.trans (hb0.mono B1.size)
    have c0 := keepc hb0 q0
    by_cases hlt : i < v.nt
    · obtain ⟨wo, hwo⟩ : ∃ wo : World, wo = wr := ⟨_, rfl⟩
      rw [← hwo] at hb0 B2 c0 ⊢
      clear hwo wr
      obtain ⟨a2, x2, g1, r2⟩ := G1.out i (by have := lt.out; omega)
      obtain ⟨m, hm⟩ : ∃ m, m = (p.threads.getD i []).length := ⟨_, rfl⟩
      rw [← hm] at g1
      replace g1 := keepc hb0 g1
      replace r2 := r2.below hb0
      have hmm := Z6.out i
      rw [← hm] at hmm
      have HM := Lib.hid hm
      clear hm
      have zs : v.ns ≤ 1048576 := HZ.out.ls
      go_wp2_with (refine wpList_make_full _ rfl _ _ 23 rfl wo.heap.size 3 i0 (.int .i64 0) 1 Try.underlying23 hi0 hz0 hz1 _ _ _ _ v.ns rfl rfl rfl rfl (by rw [hz2]; omega) (by unfold maxLen; omega) (Nat.le_refl _) ?_; intro w2 hown1 hgr1)
      rw [show (Value.int .i64 0).cells = #[.int .i64 0] from rfl, Nat.mul_one, toList_madeCells_one] at hown1
      have hb2 : Below wo.heap.size wo w2 := below_of_grown hgr1 (Nat.le_refl _) (by simp)
      clear hgr1
      go_loopw [24] (fun j wk => ∃ (k : Nat) (h : List Int), k ≤ m ∧ j = .int .i64 k ∧ Hid (balRun (List.replicate v.ns 0) ((p.threads.getD i []).take k) = some h ∧ Held v.ns k h) ∧ wk.ownsRow wo.heap.size 3 1 (.slice (some ⟨wo.heap.size, 0, none⟩) v.ns v.ns) v.ns (ints h) ∧ Below wo.heap.size wo wk) (fun j _ => m - (intOf j).toNat)
      case atStart => exact ⟨0, List.replicate v.ns 0, by omega, rfl, Lib.hid ⟨rfl, held_start _⟩, by simpa [ints] using hown1, hb2⟩
      case round =>
        obtain ⟨k, h, hk, rfl, hrun, hown, hbk⟩ := hrel
        have B3 : Below w.heap.size w wr := B2.trans (hbk.mono B2.size)
        have BW : Below w1.heap.size w1 wr := hb0.trans (hbk.mono hb0.size)
        by_cases hkl : k < m
        · skip
          obtain ⟨b2, o2, ea2, g2'⟩ := r2.op (by have := HM.out; omega)
          obtain ⟨g2a, g2b, g2c⟩ := g2' k (by have := HM.out; omega)
          obtain ⟨o, ho⟩ : ∃ o, o = (p.threads.getD i []).getD k noOp := ⟨_, rfl⟩
          rw [← ho] at g2a g2b g2c
          replace g2a := keepc hbk g2a
          replace g2b := keepc hbk g2b
          replace g2c := keepc hbk g2c
          have HO := Lib.hid ho
          subst ea2
          clear g2' ho
          have hop := HVO.out i k (by have := lt.out; omega) (by have := HM.out; omega)
          rw [← HO.out] at hop
          have HNX : Hid (balRun (List.replicate v.ns 0) ((p.threads.getD i []).take (k + 1)) = balStep h o) := Lib.hid (by
            rw [balRun_snoc (by have := HM.out; omega), hrun.out.1, ← HO.out]; rfl)
          have bA : Below wr.heap.size wr (wr.alloc (.cells #[.int .i64 o.kind, .int .i64 o.on, .int .i64 o.arg] 44)) := (Below.refl _ _).alloc (Nat.le_refl _) _
          have kA : Blk (wr.alloc (.cells #[.int .i64 o.kind, .int .i64 o.on, .int .i64 o.arg] 44)) wr.heap.size #[.int .i64 o.kind, .int .i64 o.on, .int .i64 o.arg] 44 := Blk.new _ _ _
          have hownA := owns_below hown bA
          have hbA : Below wo.heap.size wo (wr.alloc (.cells #[.int .i64 o.kind, .int .i64 o.on, .int .i64 o.arg] 44)) := hbk.trans (bA.mono hbk.size)
          obtain ⟨WA, hWA⟩ : ∃ WA : World, WA = (wr.alloc (.cells #[.int .i64 o.kind, .int .i64 o.on, .int .i64 o.arg] 44)) := ⟨_, rfl⟩
          have e0 : (wr.alloc (.cells #[.int .i64 o.kind, .int .i64 o.on, .int .i64 o.arg] 44)).cell? ⟨wr.heap.size, 0, none⟩ = some (.int .i64 o.kind) := kA.cell 0 rfl
          have e1 : (wr.alloc (.cells #[.int .i64 o.kind, .int .i64 o.on, .int .i64 o.arg] 44)).cell? ⟨wr.heap.size, 1, none⟩ = some (.int .i64 o.on) := kA.cell 1 rfl
          have e2 : (wr.alloc (.cells #[.int .i64 o.kind, .int .i64 o.on, .int .i64 o.arg] 44)).cell? ⟨wr.heap.size, 2, none⟩ = some (.int .i64 o.arg) := kA.cell 2 rfl
          rw [← hWA] at hownA hbA e0 e1 e2 bA
          have HWA := Lib.hid hWA
          clear hWA kA bA
          by_cases h2 : o.kind = 2
          · obtain ⟨⟨on0, on1⟩, a1, a9⟩ := valid_arg HV.out hop (.inl h2)
            rw [ls.out] at on1
            obtain ⟨x, hx⟩ : ∃ x, x = h.getD o.on.toNat 0 := ⟨_, rfl⟩
            have hxb := hrun.out.2.2 o.on.toNat
            rw [← hx] at hxb
            have hwr : IntKind.i64.wrap (x + o.arg) = x + o.arg := Go.IntWalk.i64_in _ (by have := HM.out; omega)
            have hcell : WA.cell? ⟨wo.heap.size, o.on.toNat, none⟩ = some (.int .i64 x) := by
              have hl := hrun.out.2.1
              have := hownA.cellAt o.on.toNat (by omega)
              rw [this, hx]; simp [ints, List.getD, show o.on.toNat < h.length by omega]
            have hfz := hownA.frozenAt o.on.toNat
            have R := owns_store (owns_below hownA (Below.refl _ _).drew) o.on.toNat (.int .i64 (x + o.arg)) (cs' := ints (h.set o.on.toNat (x + o.arg))) (by simp [ints, List.map_set])
            have HST : Hid (balStep h o = some (h.set o.on.toNat (x + o.arg))) := Lib.hid (by unfold balStep; rw [if_pos h2, hx])
            have t2 : (o.kind == 2) = true := by simpa using h2
            have HX := Lib.hid hx
            have HR := Lib.hid R
            have HXB := Lib.hid hxb
            clear hx R hop hownA hown hxb h2
            go_wp2
            rw [← HWA.out]
            go_still_tail 9, (by kernel_rfl)
            go_wp2
            go_roundw
            case rel => exact ⟨k + 1, h.set o.on.toNat (x + o.arg), by omega, by go_num, Lib.hid ⟨by rw [HNX.out, HST.out], held_set hrun.out.2 (by have := HXB.out; omega)⟩, HR.out.1, (hbA.drew).trans (below_of_grown HR.out.2 hbA.drew.size (by simp))⟩
            case measure => simp [intOf]; omega
          · have t2 : (o.kind == 2) = false := by simpa using h2
            by_cases h3 : o.kind = 3
            · obtain ⟨⟨on0, on1⟩, a1, a9⟩ := valid_arg HV.out hop (.inr h3)
              rw [ls.out] at on1
              obtain ⟨x, hx⟩ : ∃ x, x = h.getD o.on.toNat 0 := ⟨_, rfl⟩
              have hxb := hrun.out.2.2 o.on.toNat
              rw [← hx] at hxb
              have hwr : IntKind.i64.wrap (x - o.arg) = x - o.arg := Go.IntWalk.i64_in _ (by have := HM.out; omega)
              have hcell : WA.cell? ⟨wo.heap.size, o.on.toNat, none⟩ = some (.int .i64 x) := by
                have hl := hrun.out.2.1
                have := hownA.cellAt o.on.toNat (by omega)
                rw [this, hx]; simp [ints, List.getD, show o.on.toNat < h.length by omega]
              have hfz := hownA.frozenAt o.on.toNat
              have R := owns_store (owns_below hownA (Below.refl _ _).drew) o.on.toNat (.int .i64 (x - o.arg)) (cs' := ints (h.set o.on.toNat (x - o.arg))) (by simp [ints, List.map_set])
              have HST : Hid (balStep h o = if x - o.arg < 0 then none else some (h.set o.on.toNat (x - o.arg))) := Lib.hid (by unfold balStep; rw [if_neg h2, if_pos h3, hx])
              have t3 : (o.kind == 3) = true := by simpa using h3
              have HX := Lib.hid hx
              have HR := Lib.hid R
              have HXB := Lib.hid hxb
              have R2 := owns_store hownA o.on.toNat (.int .i64 (x - o.arg)) (cs' := ints (h.set o.on.toNat (x - o.arg))) (by simp [ints, List.map_set])
              have hcell2 : (WA.setCell ⟨wo.heap.size, o.on.toNat, none⟩ (.int .i64 (x - o.arg))).cell? ⟨wo.heap.size, o.on.toNat, none⟩ = some (.int .i64 (x - o.arg)) := by
                have hl := hrun.out.2.1
                have := R2.1.cellAt o.on.toNat (by omega)
                rw [this]; simp [ints, show o.on.toNat < h.length by omega]
              have bS : Below wr.heap.size wr WA := by rw [HWA.out]; exact (Below.refl _ _).alloc (Nat.le_refl _) _
              have e1S : (WA.setCell ⟨wo.heap.size, o.on.toNat, none⟩ (.int .i64 (x - o.arg))).cell? ⟨wr.heap.size, 1, none⟩ = some (.int .i64 o.on) := by
                have hne : wo.heap.size ≠ wr.heap.size := by
                  obtain ⟨g, hg, h1, h2⟩ := owns_at hown (by omega)
                  simp only [Option.some.injEq, Addr.mk.injEq, and_true] at hg
                  omega
                rw [World.cell?_setCell_far _ _ _ _ (by simpa using hne)]
                exact e1
              by_cases hneg : x - o.arg < 0
              · have tn : decide (x - o.arg < 0) = true := decide_eq_true hneg
                have HB : Hid (isBalanced p = false) := Lib.hid (bal_bad (i := i) (by have := lt.out; omega) (by
                  unfold balThread
                  rw [ls.out, balRun_none (k := k + 1) (by rw [HNX.out, HST.out, if_pos hneg])]))
                clear hx R R2 hop hownA hown hxb h2 h3
                go_wp2
                rw [← HWA.out]
                go_still_tail 9, (by kernel_rfl)
                go_wp2
                go_ret
                exact ⟨ret_bool (by rw [HB.out]), (B2.trans (hbA.mono B2.size)).drew.trans (below_of_grown HR.out.2 (B2.trans (hbA.mono B2.size)).drew.size (by rintro g hg; cases hg; exact B2.size))⟩
              · have tn : decide (x - o.arg < 0) = false := decide_eq_false hneg
                clear hx R R2 hop hownA hown hxb h2 h3
                go_wp2
                rw [← HWA.out]
                go_still_tail 9, (by kernel_rfl)
                go_wp2
                go_roundw
                case rel => exact ⟨k + 1, h.set o.on.toNat (x - o.arg), by omega, by go_num, Lib.hid ⟨by rw [HNX.out, HST.out, if_neg (by omega)], held_set hrun.out.2 (by have := HXB.out; omega)⟩, HR.out.1, (hbA.drew).trans (below_of_grown HR.out.2 hbA.drew.size (by simp))⟩
                case measure => simp [intOf]; omega
            · have t3 : (o.kind == 3) = false := by simpa using h3
              have HST : Hid (balStep h o = some h) := Lib.hid (by unfold balStep; rw [if_neg h2, if_neg h3])
              have HR := Lib.hid hownA
              clear hop hownA hown h2 h3
              go_wp2
              rw [← HWA.out]
              go_roundw
              case rel => exact ⟨k + 1, h, by omega, by go_num, Lib.hid ⟨by rw [HNX.out, HST.out], held_same hrun.out.2⟩, HR.out, hbA⟩
              case measure => simp [intOf]; omega
        · have hkm : k = m := by omega
          subst hkm
          have hbr : Hid (balRun (List.replicate v.ns 0) (p.threads.getD i []) = some h) := Lib.hid (by
            have := hrun.out.1; rw [HM.out, List.take_length] at this; exact this)
          have hlen := hrun.out.2.1
          rcases Bool.eq_false_or_eq_true (h.any (fun x => !(decide (x = 0)))) with ha | ha
          · have HB : Hid (isBalanced p = false) := Lib.hid (bal_bad (i := i) (by have := lt.out; omega) (by
              unfold balThread
              rw [ls.out, hbr.out]
              show h.all (fun x => decide (x = 0)) = false
              rw [any_not_all] at ha
              simpa using ha))
            go_wp2_with fail
            refine (containsInt_any 65 #[] (fun x => !(decide (x = 0))) _ v.ns v.ns h _ (enters_of Try.func65 (by kernel_rfl) rfl) hlen (by unfold maxLen; omega) (Rd.of_owns hown) (fun x => nonZero_any x _)).mono ?_
            rintro e w3 ⟨rfl, rfl⟩
            rw [ha]
            go_wp2
            go_ret
            exact ⟨ret_bool (by rw [HB.out]), B3⟩
          · have HG : Hid (balThread p.sems.length (p.threads.getD i []) = true) := Lib.hid (by
              unfold balThread
              rw [ls.out, hbr.out]
              show h.all (fun x => decide (x = 0)) = true
              rw [any_not_all] at ha
              simpa using ha)
            go_wp2_with fail
            refine (containsInt_any 65 #[] (fun x => !(decide (x = 0))) _ v.ns v.ns h _ (enters_of Try.func65 (by kernel_rfl) rfl) hlen (by unfold maxLen; omega) (Rd.of_owns hown) (fun x => nonZero_any x _)).mono ?_
            rintro e w3 ⟨rfl, rfl⟩
            rw [ha]
            go_wp2
            go_roundw
            case rel => exact ⟨i + 1, by omega, by go_num, Lib.hid (fun j hj => by
              rcases Nat.lt_or_ge j i with h | h
              · exact hall.out j h
              · have : j = i := by omega
                subst this
                exact HG.out), BW⟩
            case measure => simp [intOf]; omega
    · have hkm : i = v.nt := by omega
      subst hkm
      have HB : Hid (isBalanced p = true) := Lib.hid (bal_good HV.out (by rw [lt.out]; exact hall.out))
      go_wp2
      go_ret
      exact ⟨ret_bool (by rw [HB.out]), B2⟩

end Go.Proofs.Ytnobkdkfhgjeeab
