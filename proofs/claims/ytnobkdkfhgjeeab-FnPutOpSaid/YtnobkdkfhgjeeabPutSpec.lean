/- PutOp: the reference's text. -/
import Derived.Test.YtnobkdkfhgjeeabDropSpec
import Derived.Test.YtnobkdkfhgjeeabPut
import Derived.Test.YtnobkdkfhgjeeabBaseA
import Derived.Deep.Cut
namespace Go.Proofs.Ytnobkdkfhgjeeab
open Go.RowKit

set_option maxRecDepth 100000 in
set_option maxHeartbeats 8000000 in
theorem specPutOp_any (v : PV) (p : Pg) (a x : Int) (o : OpD) (w : World) (hr : RdP w v p) (hz : Small v p) (hcap : CapT w v p) :
    Calls Try.prog 17 #[.agg #[.slice v.s v.ns v.cs, .slice v.g v.ng v.cg, .slice v.b v.nb v.cb, .slice v.r v.nr v.cr, .slice v.t v.nt v.ct], .int .i64 a, .int .i64 x, .agg #[.int .i64 o.kind, .int .i64 o.on, .int .i64 o.arg]] w fun e w' => ∃ (u : PV) (us : List Value), e = .returned (.tuple #[.agg #[.slice u.s u.ns u.cs, .slice u.g u.ng u.cg, .slice u.b u.nb u.cb, .slice u.r u.nr u.cr, .slice u.t u.nt u.ct], .bool (putOp p a x o).isSome]) ∧ OwnP w' u us ((putOp p a x o).getD noPg).cells ∧ Below w.heap.size w w' := by
  rcases Bool.eq_false_or_eq_true (isThr p a) with ha | ha
  rotate_left
  · have hs : v.ns ≤ maxLen ∧ v.ng ≤ maxLen ∧ v.nb ≤ maxLen ∧ v.nr ≤ maxLen := by
      obtain ⟨z1, z2, z3, z4, z5, z6⟩ := hz; unfold maxLen; omega
    have zz : Hid (v.ns ≤ maxLen ∧ v.ng ≤ maxLen ∧ v.nb ≤ maxLen ∧ v.nr ≤ maxLen) := Lib.hid hs
    have HZ := Lib.hid hz
    have z5 : v.nt ≤ 1048576 := hz.lt
    have Z6 := Lib.hid hz.inn
    have ls := Lib.hid hr.ls
    have lg := Lib.hid hr.lg
    have lb := Lib.hid hr.lb
    have lr := Lib.hid hr.lr
    have lt := Lib.hid hr.lt
    clear hz
    have B0 : Below w.heap.size w (w.alloc (.cells #[.slice v.s v.ns v.cs, .slice v.g v.ng v.cg, .slice v.b v.nb v.cb, .slice v.r v.nr v.cr, .slice v.t v.nt v.ct] 26)) := (Below.refl _ _).alloc (Nat.le_refl _) _
    have k0 : Blk (w.alloc (.cells #[.slice v.s v.ns v.cs, .slice v.g v.ng v.cg, .slice v.b v.nb v.cb, .slice v.r v.nr v.cr, .slice v.t v.nt v.ct] 26)) w.heap.size #[.slice v.s v.ns v.cs, .slice v.g v.ng v.cg, .slice v.b v.nb v.cb, .slice v.r v.nr v.cr, .slice v.t v.nt v.ct] 26 := Blk.new _ _ _
    have q0 : (w.alloc (.cells #[.slice v.s v.ns v.cs, .slice v.g v.ng v.cg, .slice v.b v.nb v.cb, .slice v.r v.nr v.cr, .slice v.t v.nt v.ct] 26)).cell? ⟨w.heap.size, 0, none⟩ = some (.slice v.s v.ns v.cs) := k0.cell 0 rfl
    have q1 : (w.alloc (.cells #[.slice v.s v.ns v.cs, .slice v.g v.ng v.cg, .slice v.b v.nb v.cb, .slice v.r v.nr v.cr, .slice v.t v.nt v.ct] 26)).cell? ⟨w.heap.size, 1, none⟩ = some (.slice v.g v.ng v.cg) := k0.cell 1 rfl
    have q2 : (w.alloc (.cells #[.slice v.s v.ns v.cs, .slice v.g v.ng v.cg, .slice v.b v.nb v.cb, .slice v.r v.nr v.cr, .slice v.t v.nt v.ct] 26)).cell? ⟨w.heap.size, 2, none⟩ = some (.slice v.b v.nb v.cb) := k0.cell 2 rfl
    have q3 : (w.alloc (.cells #[.slice v.s v.ns v.cs, .slice v.g v.ng v.cg, .slice v.b v.nb v.cb, .slice v.r v.nr v.cr, .slice v.t v.nt v.ct] 26)).cell? ⟨w.heap.size, 3, none⟩ = some (.slice v.r v.nr v.cr) := k0.cell 3 rfl
    have q4 : (w.alloc (.cells #[.slice v.s v.ns v.cs, .slice v.g v.ng v.cg, .slice v.b v.nb v.cb, .slice v.r v.nr v.cr, .slice v.t v.nt v.ct] 26)).cell? ⟨w.heap.size, 4, none⟩ = some (.slice v.t v.nt v.ct) := k0.cell 4 rfl
    clear k0
    obtain ⟨W0, hW0⟩ : ∃ W0 : World, W0 = (((w.alloc (.cells #[.slice v.s v.ns v.cs, .slice v.g v.ng v.cg, .slice v.b v.nb v.cb, .slice v.r v.nr v.cr, .slice v.t v.nt v.ct] 26)).alloc (.cells #[.int .i64 o.kind, .int .i64 o.on, .int .i64 o.arg] 44)).alloc (.cells #[.slice none 0 0, .slice none 0 0, .slice none 0 0, .slice none 0 0, .slice none 0 0] 26)) := ⟨_, rfl⟩
    have b1 : Below (w.alloc (.cells #[.slice v.s v.ns v.cs, .slice v.g v.ng v.cg, .slice v.b v.nb v.cb, .slice v.r v.nr v.cr, .slice v.t v.nt v.ct] 26)).heap.size (w.alloc (.cells #[.slice v.s v.ns v.cs, .slice v.g v.ng v.cg, .slice v.b v.nb v.cb, .slice v.r v.nr v.cr, .slice v.t v.nt v.ct] 26)) (((w.alloc (.cells #[.slice v.s v.ns v.cs, .slice v.g v.ng v.cg, .slice v.b v.nb v.cb, .slice v.r v.nr v.cr, .slice v.t v.nt v.ct] 26)).alloc (.cells #[.int .i64 o.kind, .int .i64 o.on, .int .i64 o.arg] 44)).alloc (.cells #[.slice none 0 0, .slice none 0 0, .slice none 0 0, .slice none 0 0, .slice none 0 0] 26)) := ((Below.refl _ _).alloc (Nat.le_refl _) _).alloc (by simp) _
    have kO : Blk (((w.alloc (.cells #[.slice v.s v.ns v.cs, .slice v.g v.ng v.cg, .slice v.b v.nb v.cb, .slice v.r v.nr v.cr, .slice v.t v.nt v.ct] 26)).alloc (.cells #[.int .i64 o.kind, .int .i64 o.on, .int .i64 o.arg] 44)).alloc (.cells #[.slice none 0 0, .slice none 0 0, .slice none 0 0, .slice none 0 0, .slice none 0 0] 26)) (w.heap.size + 1) #[.int .i64 o.kind, .int .i64 o.on, .int .i64 o.arg] 44 := by simpa using (Blk.new (w.alloc (.cells #[.slice v.s v.ns v.cs, .slice v.g v.ng v.cg, .slice v.b v.nb v.cb, .slice v.r v.nr v.cr, .slice v.t v.nt v.ct] 26)) #[.int .i64 o.kind, .int .i64 o.on, .int .i64 o.arg] 44).alloc (.cells #[.slice none 0 0, .slice none 0 0, .slice none 0 0, .slice none 0 0, .slice none 0 0] 26)
    have kR : Blk (((w.alloc (.cells #[.slice v.s v.ns v.cs, .slice v.g v.ng v.cg, .slice v.b v.nb v.cb, .slice v.r v.nr v.cr, .slice v.t v.nt v.ct] 26)).alloc (.cells #[.int .i64 o.kind, .int .i64 o.on, .int .i64 o.arg] 44)).alloc (.cells #[.slice none 0 0, .slice none 0 0, .slice none 0 0, .slice none 0 0, .slice none 0 0] 26)) (w.heap.size + 1 + 1) #[.slice none 0 0, .slice none 0 0, .slice none 0 0, .slice none 0 0, .slice none 0 0] 26 := by simpa using Blk.new ((w.alloc (.cells #[.slice v.s v.ns v.cs, .slice v.g v.ng v.cg, .slice v.b v.nb v.cb, .slice v.r v.nr v.cr, .slice v.t v.nt v.ct] 26)).alloc (.cells #[.int .i64 o.kind, .int .i64 o.on, .int .i64 o.arg] 44)) #[.slice none 0 0, .slice none 0 0, .slice none 0 0, .slice none 0 0, .slice none 0 0] 26
    replace q0 := keepc b1 q0
    replace q1 := keepc b1 q1
    replace q2 := keepc b1 q2
    replace q3 := keepc b1 q3
    replace q4 := keepc b1 q4
    replace B0 := B0.trans (b1.mono B0.size)
    have HW0 := Lib.hid hW0
    rw [← hW0] at q0 q1 q2 q3 q4 B0 kR kO
    clear b1 hW0
    have HN : Hid (putOp p a x o = none) := Lib.hid (change_not ha)
    have HA := Lib.hid ha
    clear ha
    go_enter Try.func17, Try.ntmps17
    go_wp2_with fail
    rw [← HW0.out]
    refine (l11Thread_any v p a _ (hr.below B0) HZ.out).mono ?_
    rintro e w1 ⟨rfl, hb⟩
    rw [HA.out]
    have kO' := kO.below hb
    clear kO
    have kO := kO'
    clear kO'
    have kR' := kR.below hb
    clear kR
    have kR := kR'
    clear kR'
    replace q0 := keepc hb q0
    replace q1 := keepc hb q1
    replace q2 := keepc hb q2
    replace q3 := keepc hb q3
    replace q4 := keepc hb q4
    replace B0 := B0.trans (hb.mono B0.size)
    clear hb
    have y0 := kR.cell 0 rfl
    have x0 := kR.fz 0
    have y1 := kR.cell 1 rfl
    have x1 := kR.fz 1
    have y2 := kR.cell 2 rfl
    have x2 := kR.fz 2
    have y3 := kR.cell 3 rfl
    have x3 := kR.fz 3
    have y4 := kR.cell 4 rfl
    have x4 := kR.fz 4
    go_wp2
    refine bodyPost_ret (v := .tuple #[.agg #[.slice none 0 0, .slice none 0 0, .slice none 0 0, .slice none 0 0, .slice none 0 0], .bool false]) (by simp [results, Try.results17, go_sem, y0, y1, y2, y3, y4]) rfl ⟨nilPV, [], by rw [HN.out]; rfl, by rw [HN.out]; exact own_nil _, ?_⟩
    exact ((((B0.setCell (by show w.heap.size ≤ w.heap.size + 1 + 1; omega) _).setCell (by show w.heap.size ≤ w.heap.size + 1 + 1; omega) _).setCell (by show w.heap.size ≤ w.heap.size + 1 + 1; omega) _).setCell (by show w.heap.size ≤ w.heap.size + 1 + 1; omega) _).setCell (by show w.heap.size ≤ w.heap.size + 1 + 1; omega) _
  obtain ⟨hpv, ha0, ha1⟩ := isThr_iff.1 ha
  obtain ⟨bt, ox, ea, hthr⟩ := hr.thr (by omega)
  obtain ⟨sV, nsV, csV, gV, ngV, cgV, bV, nbV, cbV, rV, nrV, crV, tV, ntV, ctV⟩ := v
  dsimp only at ea
  subst ea
  dsimp only
  have hcw := hcap bt ox rfl
  clear hcap
  have hs : nsV ≤ maxLen ∧ ngV ≤ maxLen ∧ nbV ≤ maxLen ∧ nrV ≤ maxLen := by
    have z1 : nsV ≤ 1048576 := hz.ls; have z2 : ngV ≤ 1048576 := hz.lg; have z3 : nbV ≤ 1048576 := hz.lb; have z4 : nrV ≤ 1048576 := hz.lr; unfold maxLen; omega
  have zz : Hid (nsV ≤ maxLen ∧ ngV ≤ maxLen ∧ nbV ≤ maxLen ∧ nrV ≤ maxLen) := Lib.hid hs
  have HZ := Lib.hid hz
  have z5 : ntV ≤ 1048576 := hz.lt
  have Z6 := Lib.hid hz.inn
  have ls : Hid (p.sems.length = nsV) := Lib.hid hr.ls
  have lg : Hid (p.groups.length = ngV) := Lib.hid hr.lg
  have lb : Hid (p.barriers.length = nbV) := Lib.hid hr.lb
  have lr : Hid (p.rooms.length = nrV) := Lib.hid hr.lr
  have lt : Hid (p.threads.length = ntV) := Lib.hid hr.lt
  clear hz
  have B0 : Below w.heap.size w (w.alloc (.cells #[.slice sV nsV csV, .slice gV ngV cgV, .slice bV nbV cbV, .slice rV nrV crV, .slice (some ⟨bt, ox, none⟩) ntV ctV] 26)) := (Below.refl _ _).alloc (Nat.le_refl _) _
  have k0 : Blk (w.alloc (.cells #[.slice sV nsV csV, .slice gV ngV cgV, .slice bV nbV cbV, .slice rV nrV crV, .slice (some ⟨bt, ox, none⟩) ntV ctV] 26)) w.heap.size #[.slice sV nsV csV, .slice gV ngV cgV, .slice bV nbV cbV, .slice rV nrV crV, .slice (some ⟨bt, ox, none⟩) ntV ctV] 26 := Blk.new _ _ _
  have q0 : (w.alloc (.cells #[.slice sV nsV csV, .slice gV ngV cgV, .slice bV nbV cbV, .slice rV nrV crV, .slice (some ⟨bt, ox, none⟩) ntV ctV] 26)).cell? ⟨w.heap.size, 0, none⟩ = some (.slice sV nsV csV) := k0.cell 0 rfl
  have q1 : (w.alloc (.cells #[.slice sV nsV csV, .slice gV ngV cgV, .slice bV nbV cbV, .slice rV nrV crV, .slice (some ⟨bt, ox, none⟩) ntV ctV] 26)).cell? ⟨w.heap.size, 1, none⟩ = some (.slice gV ngV cgV) := k0.cell 1 rfl
  have q2 : (w.alloc (.cells #[.slice sV nsV csV, .slice gV ngV cgV, .slice bV nbV cbV, .slice rV nrV crV, .slice (some ⟨bt, ox, none⟩) ntV ctV] 26)).cell? ⟨w.heap.size, 2, none⟩ = some (.slice bV nbV cbV) := k0.cell 2 rfl
  have q3 : (w.alloc (.cells #[.slice sV nsV csV, .slice gV ngV cgV, .slice bV nbV cbV, .slice rV nrV crV, .slice (some ⟨bt, ox, none⟩) ntV ctV] 26)).cell? ⟨w.heap.size, 3, none⟩ = some (.slice rV nrV crV) := k0.cell 3 rfl
  have q4 : (w.alloc (.cells #[.slice sV nsV csV, .slice gV ngV cgV, .slice bV nbV cbV, .slice rV nrV crV, .slice (some ⟨bt, ox, none⟩) ntV ctV] 26)).cell? ⟨w.heap.size, 4, none⟩ = some (.slice (some ⟨bt, ox, none⟩) ntV ctV) := k0.cell 4 rfl
  clear k0
  obtain ⟨W0, hW0⟩ : ∃ W0 : World, W0 = (((w.alloc (.cells #[.slice sV nsV csV, .slice gV ngV cgV, .slice bV nbV cbV, .slice rV nrV crV, .slice (some ⟨bt, ox, none⟩) ntV ctV] 26)).alloc (.cells #[.int .i64 o.kind, .int .i64 o.on, .int .i64 o.arg] 44)).alloc (.cells #[.slice none 0 0, .slice none 0 0, .slice none 0 0, .slice none 0 0, .slice none 0 0] 26)) := ⟨_, rfl⟩
  have b1 : Below (w.alloc (.cells #[.slice sV nsV csV, .slice gV ngV cgV, .slice bV nbV cbV, .slice rV nrV crV, .slice (some ⟨bt, ox, none⟩) ntV ctV] 26)).heap.size (w.alloc (.cells #[.slice sV nsV csV, .slice gV ngV cgV, .slice bV nbV cbV, .slice rV nrV crV, .slice (some ⟨bt, ox, none⟩) ntV ctV] 26)) (((w.alloc (.cells #[.slice sV nsV csV, .slice gV ngV cgV, .slice bV nbV cbV, .slice rV nrV crV, .slice (some ⟨bt, ox, none⟩) ntV ctV] 26)).alloc (.cells #[.int .i64 o.kind, .int .i64 o.on, .int .i64 o.arg] 44)).alloc (.cells #[.slice none 0 0, .slice none 0 0, .slice none 0 0, .slice none 0 0, .slice none 0 0] 26)) := ((Below.refl _ _).alloc (Nat.le_refl _) _).alloc (by simp) _
  have kO : Blk (((w.alloc (.cells #[.slice sV nsV csV, .slice gV ngV cgV, .slice bV nbV cbV, .slice rV nrV crV, .slice (some ⟨bt, ox, none⟩) ntV ctV] 26)).alloc (.cells #[.int .i64 o.kind, .int .i64 o.on, .int .i64 o.arg] 44)).alloc (.cells #[.slice none 0 0, .slice none 0 0, .slice none 0 0, .slice none 0 0, .slice none 0 0] 26)) (w.heap.size + 1) #[.int .i64 o.kind, .int .i64 o.on, .int .i64 o.arg] 44 := by simpa using (Blk.new (w.alloc (.cells #[.slice sV nsV csV, .slice gV ngV cgV, .slice bV nbV cbV, .slice rV nrV crV, .slice (some ⟨bt, ox, none⟩) ntV ctV] 26)) #[.int .i64 o.kind, .int .i64 o.on, .int .i64 o.arg] 44).alloc (.cells #[.slice none 0 0, .slice none 0 0, .slice none 0 0, .slice none 0 0, .slice none 0 0] 26)
  have kR : Blk (((w.alloc (.cells #[.slice sV nsV csV, .slice gV ngV cgV, .slice bV nbV cbV, .slice rV nrV crV, .slice (some ⟨bt, ox, none⟩) ntV ctV] 26)).alloc (.cells #[.int .i64 o.kind, .int .i64 o.on, .int .i64 o.arg] 44)).alloc (.cells #[.slice none 0 0, .slice none 0 0, .slice none 0 0, .slice none 0 0, .slice none 0 0] 26)) (w.heap.size + 1 + 1) #[.slice none 0 0, .slice none 0 0, .slice none 0 0, .slice none 0 0, .slice none 0 0] 26 := by simpa using Blk.new ((w.alloc (.cells #[.slice sV nsV csV, .slice gV ngV cgV, .slice bV nbV cbV, .slice rV nrV crV, .slice (some ⟨bt, ox, none⟩) ntV ctV] 26)).alloc (.cells #[.int .i64 o.kind, .int .i64 o.on, .int .i64 o.arg] 44)) #[.slice none 0 0, .slice none 0 0, .slice none 0 0, .slice none 0 0, .slice none 0 0] 26
  replace q0 := keepc b1 q0
  replace q1 := keepc b1 q1
  replace q2 := keepc b1 q2
  replace q3 := keepc b1 q3
  replace q4 := keepc b1 q4
  replace B0 := B0.trans (b1.mono B0.size)
  have HW0 := Lib.hid hW0
  rw [← hW0] at q0 q1 q2 q3 q4 B0 kR kO
  clear b1 hW0
  rw [lt.out] at ha1
  have ha1' : a < (ntV : Int) := ha1
  obtain ⟨na, rfl⟩ := Int.eq_ofNat_of_zero_le ha0
  obtain ⟨a2, c2, g1w, r2w⟩ := hthr na (by have := lt.out; omega)
  have hmc := hcw na (by have := lt.out; omega) _ _ _ g1w
  have hml := Z6.out na
  have hm8 : (p.threads.getD na []).length ≤ 8 := valid_len hpv (by have := lt.out; omega)
  obtain ⟨m, hm⟩ : ∃ m, m = (p.threads.getD na []).length := ⟨_, rfl⟩
  rw [← hm] at g1w hmc hml hm8
  have HM := Lib.hid hm
  have HR2 := Lib.hid r2w
  have G1W := Lib.hid g1w
  have HA := Lib.hid ha
  have i0 : (0 : Int) ≤ (na : Int) := by omega
  have i1 : (na : Int) < (ntV : Int) := by omega
  clear hthr hcw hm ha r2w g1w hpv
  by_cases hx0 : x < 0
  · have HN : Hid (putOp p na x o = none) := Lib.hid (by unfold putOp; rw [change_of HA.out]; unfold putRes; rw [if_neg (by omega)])
    have t0 : decide (x < 0) = true := decide_eq_true hx0
    clear hx0
    go_enter Try.func17, Try.ntmps17
    go_wp2_with fail
    rw [← HW0.out]
    refine (l11Thread_any _ p na _ (hr.below B0) HZ.out).mono ?_
    rintro e w1 ⟨rfl, hb⟩
    rw [HA.out]
    have kO' := kO.below hb
    clear kO
    have kO := kO'
    clear kO'
    have kR' := kR.below hb
    clear kR
    have kR := kR'
    clear kR'
    replace q0 := keepc hb q0
    replace q1 := keepc hb q1
    replace q2 := keepc hb q2
    replace q3 := keepc hb q3
    replace q4 := keepc hb q4
    replace B0 := B0.trans (hb.mono B0.size)
    clear hb
    have g1 := keepc B0 G1W.out
    have y0 := kR.cell 0 rfl
    have x0 := kR.fz 0
    have y1 := kR.cell 1 rfl
    have x1 := kR.fz 1
    have y2 := kR.cell 2 rfl
    have x2 := kR.fz 2
    have y3 := kR.cell 3 rfl
    have x3 := kR.fz 3
    have y4 := kR.cell 4 rfl
    have x4 := kR.fz 4
    go_wp2
    refine bodyPost_ret (v := .tuple #[.agg #[.slice none 0 0, .slice none 0 0, .slice none 0 0, .slice none 0 0, .slice none 0 0], .bool false]) (by simp [results, Try.results17, go_sem, y0, y1, y2, y3, y4]) rfl ⟨nilPV, [], by rw [HN.out]; rfl, by rw [HN.out]; exact own_nil _, ?_⟩
    exact ((((B0.setCell (by show w.heap.size ≤ w.heap.size + 1 + 1; omega) _).setCell (by show w.heap.size ≤ w.heap.size + 1 + 1; omega) _).setCell (by show w.heap.size ≤ w.heap.size + 1 + 1; omega) _).setCell (by show w.heap.size ≤ w.heap.size + 1 + 1; omega) _).setCell (by show w.heap.size ≤ w.heap.size + 1 + 1; omega) _
  have t0 : decide (x < 0) = false := decide_eq_false hx0
  by_cases hx1 : (m : Int) < x
  · have HN : Hid (putOp p na x o = none) := Lib.hid (by unfold putOp; rw [change_of HA.out]; unfold putRes; rw [if_neg (by rw [Int.toNat_natCast, ← HM.out]; omega)])
    have t1 : decide ((m : Int) < x) = true := decide_eq_true hx1
    clear hx1
    go_enter Try.func17, Try.ntmps17
    go_wp2_with fail
    rw [← HW0.out]
    refine (l11Thread_any _ p na _ (hr.below B0) HZ.out).mono ?_
    rintro e w1 ⟨rfl, hb⟩
    rw [HA.out]
    have kO' := kO.below hb
    clear kO
    have kO := kO'
    clear kO'
    have kR' := kR.below hb
    clear kR
    have kR := kR'
    clear kR'
    replace q0 := keepc hb q0
    replace q1 := keepc hb q1
    replace q2 := keepc hb q2
    replace q3 := keepc hb q3
    replace q4 := keepc hb q4
    replace B0 := B0.trans (hb.mono B0.size)
    clear hb
    have g1 := keepc B0 G1W.out
    have y0 := kR.cell 0 rfl
    have x0 := kR.fz 0
    have y1 := kR.cell 1 rfl
    have x1 := kR.fz 1
    have y2 := kR.cell 2 rfl
    have x2 := kR.fz 2
    have y3 := kR.cell 3 rfl
    have x3 := kR.fz 3
    have y4 := kR.cell 4 rfl
    have x4 := kR.fz 4
    go_wp2
    refine bodyPost_ret (v := .tuple #[.agg #[.slice none 0 0, .slice none 0 0, .slice none 0 0, .slice none 0 0, .slice none 0 0], .bool false]) (by simp [results, Try.results17, go_sem, y0, y1, y2, y3, y4]) rfl ⟨nilPV, [], by rw [HN.out]; rfl, by rw [HN.out]; exact own_nil _, ?_⟩
    exact ((((B0.setCell (by show w.heap.size ≤ w.heap.size + 1 + 1; omega) _).setCell (by show w.heap.size ≤ w.heap.size + 1 + 1; omega) _).setCell (by show w.heap.size ≤ w.heap.size + 1 + 1; omega) _).setCell (by show w.heap.size ≤ w.heap.size + 1 + 1; omega) _).setCell (by show w.heap.size ≤ w.heap.size + 1 + 1; omega) _
  have t1 : decide ((m : Int) < x) = false := decide_eq_false hx1
  by_cases h8 : m = 8
  · have HN : Hid (putOp p na x o = none) := Lib.hid (by unfold putOp; rw [change_of HA.out]; unfold putRes; rw [if_neg (by rw [Int.toNat_natCast, ← HM.out]; omega)])
    have t2 : ((m : Int) == 8) = true := by simp; omega
    clear hx1 h8
    go_enter Try.func17, Try.ntmps17
    go_wp2_with fail
    rw [← HW0.out]
    refine (l11Thread_any _ p na _ (hr.below B0) HZ.out).mono ?_
    rintro e w1 ⟨rfl, hb⟩
    rw [HA.out]
    have kO' := kO.below hb
    clear kO
    have kO := kO'
    clear kO'
    have kR' := kR.below hb
    clear kR
    have kR := kR'
    clear kR'
    replace q0 := keepc hb q0
    replace q1 := keepc hb q1
    replace q2 := keepc hb q2
    replace q3 := keepc hb q3
    replace q4 := keepc hb q4
    replace B0 := B0.trans (hb.mono B0.size)
    clear hb
    have g1 := keepc B0 G1W.out
    have y0 := kR.cell 0 rfl
    have x0 := kR.fz 0
    have y1 := kR.cell 1 rfl
    have x1 := kR.fz 1
    have y2 := kR.cell 2 rfl
    have x2 := kR.fz 2
    have y3 := kR.cell 3 rfl
    have x3 := kR.fz 3
    have y4 := kR.cell 4 rfl
    have x4 := kR.fz 4
    go_wp2
    refine bodyPost_ret (v := .tuple #[.agg #[.slice none 0 0, .slice none 0 0, .slice none 0 0, .slice none 0 0, .slice none 0 0], .bool false]) (by simp [results, Try.results17, go_sem, y0, y1, y2, y3, y4]) rfl ⟨nilPV, [], by rw [HN.out]; rfl, by rw [HN.out]; exact own_nil _, ?_⟩
    exact ((((B0.setCell (by show w.heap.size ≤ w.heap.size + 1 + 1; omega) _).setCell (by show w.heap.size ≤ w.heap.size + 1 + 1; omega) _).setCell (by show w.heap.size ≤ w.heap.size + 1 + 1; omega) _).setCell (by show w.heap.size ≤ w.heap.size + 1 + 1; omega) _).setCell (by show w.heap.size ≤ w.heap.size + 1 + 1; omega) _
  have t2 : ((m : Int) == 8) = false := by simp; omega
  rcases Bool.eq_false_or_eq_true (opValid p o) with hv | hv
  rotate_left
  · have HN : Hid (putOp p na x o = none) := Lib.hid (by unfold putOp; rw [change_of HA.out]; unfold putRes; rw [if_neg (by rw [hv]; simp)])
    have HV := Lib.hid hv
    clear hx1 hv
    go_enter Try.func17, Try.ntmps17
    go_wp2_with fail
    rw [← HW0.out]
    refine (l11Thread_any _ p na _ (hr.below B0) HZ.out).mono ?_
    rintro e w1 ⟨rfl, hb⟩
    rw [HA.out]
    have kO' := kO.below hb
    clear kO
    have kO := kO'
    clear kO'
    have kR' := kR.below hb
    clear kR
    have kR := kR'
    clear kR'
    replace q0 := keepc hb q0
    replace q1 := keepc hb q1
    replace q2 := keepc hb q2
    replace q3 := keepc hb q3
    replace q4 := keepc hb q4
    replace B0 := B0.trans (hb.mono B0.size)
    clear hb
    have g1 := keepc B0 G1W.out
    have kO0 := kO.cell 0 rfl
    have kO1 := kO.cell 1 rfl
    have kO2 := kO.cell 2 rfl
    go_wp2_with fail
    refine (specOpValid_any _ p o _ (hr.below B0) zz.out).mono ?_
    rintro e w1b ⟨rfl, hb⟩
    rw [HV.out]
    clear kO0 kO1 kO2
    have kO' := kO.below hb
    clear kO
    have kO := kO'
    clear kO'
    have kR' := kR.below hb
    clear kR
    have kR := kR'
    clear kR'
    replace q0 := keepc hb q0
    replace q1 := keepc hb q1
    replace q2 := keepc hb q2
    replace q3 := keepc hb q3
    replace q4 := keepc hb q4
    replace B0 := B0.trans (hb.mono B0.size)
    clear hb
    have y0 := kR.cell 0 rfl
    have x0 := kR.fz 0
    have y1 := kR.cell 1 rfl
    have x1 := kR.fz 1
    have y2 := kR.cell 2 rfl
    have x2 := kR.fz 2
    have y3 := kR.cell 3 rfl
    have x3 := kR.fz 3
    have y4 := kR.cell 4 rfl
    have x4 := kR.fz 4
    go_wp2
    refine bodyPost_ret (v := .tuple #[.agg #[.slice none 0 0, .slice none 0 0, .slice none 0 0, .slice none 0 0, .slice none 0 0], .bool false]) (by simp [results, Try.results17, go_sem, y0, y1, y2, y3, y4]) rfl ⟨nilPV, [], by rw [HN.out]; rfl, by rw [HN.out]; exact own_nil _, ?_⟩
    exact ((((B0.setCell (by show w.heap.size ≤ w.heap.size + 1 + 1; omega) _).setCell (by show w.heap.size ≤ w.heap.size + 1 + 1; omega) _).setCell (by show w.heap.size ≤ w.heap.size + 1 + 1; omega) _).setCell (by show w.heap.size ≤ w.heap.size + 1 + 1; omega) _).setCell (by show w.heap.size ≤ w.heap.size + 1 + 1; omega) _
  have HN : Hid (putOp p na x o = some (p.thr (p.threads.set na ((p.threads.getD na []).insertIdx x.toNat o)))) := Lib.hid (by unfold putOp; rw [change_of HA.out]; unfold putRes; rw [Int.toNat_natCast, if_pos ⟨by omega, by rw [← HM.out]; omega, hv, by rw [← HM.out]; omega⟩])
  have HV := Lib.hid hv
  obtain ⟨i, rfl⟩ := Int.eq_ofNat_of_zero_le (show 0 ≤ x by omega)
  have hi : i ≤ m := by omega
  have t1' : decide (m < i) = false := decide_eq_false (by omega)
  clear hx0 hx1 hv t0 t1
  have t0 : decide ((i : Int) < 0) = false := by simp
  go_enter Try.func17, Try.ntmps17
  go_wp2_with fail
  rw [← HW0.out]
  refine (l11Thread_any _ p na _ (hr.below B0) HZ.out).mono ?_
  rintro e w1 ⟨rfl, hb⟩
  rw [HA.out]
  have kO' := kO.below hb
  clear kO
  have kO := kO'
  clear kO'
  have kR' := kR.below hb
  clear kR
  have kR := kR'
  clear kR'
  replace q0 := keepc hb q0
  replace q1 := keepc hb q1
  replace q2 := keepc hb q2
  replace q3 := keepc hb q3
  replace q4 := keepc hb q4
  replace B0 := B0.trans (hb.mono B0.size)
  clear hb
  have g1 := keepc B0 G1W.out
  have kO0 := kO.cell 0 rfl
  have kO1 := kO.cell 1 rfl
  have kO2 := kO.cell 2 rfl
  go_wp2_with fail
  refine (specOpValid_any _ p o _ (hr.below B0) zz.out).mono ?_
  rintro e w1b ⟨rfl, hb⟩
  rw [HV.out]
  clear kO0 kO1 kO2
  have kO' := kO.below hb
  clear kO
  have kO := kO'
  clear kO'
  have kR' := kR.below hb
  clear kR
  have kR := kR'
  clear kR'
  replace q0 := keepc hb q0
  replace q1 := keepc hb q1
  replace q2 := keepc hb q2
  replace q3 := keepc hb q3
  replace q4 := keepc hb q4
  replace B0 := B0.trans (hb.mono B0.size)
  clear hb
  go_wp2_with fail
  refine (l6Copy_any _ p _ (hr.below B0) HZ.out).mono ?_
  rintro e w2 ⟨u, us, rfl, ou, hnd, hfr, four, hb⟩
  have hs0 := B0.size
  have hsr := kR.lt
  obtain ⟨T, eT, hT1, hT2⟩ := owns_at ou.ot.out (by have h1 := ou.ot.len; simp only [Pg.cells, List.length_map] at h1; have := lt.out; omega)
  have hTf := hfr T (by unfold fpP fpT; rw [eT]; simp [rowOf])
  obtain ⟨sU, nsU, csU, gU, ngU, cgU, bU, nbU, cbU, rU, nrU, crU, tU, ntU, ctU⟩ := u
  dsimp only at eT ou hfr hnd four ⊢
  subst eT
  have kO' := kO.below hb
  clear kO
  have kO := kO'
  clear kO'
  have kR' := kR.below hb
  clear kR
  have kR := kR'
  clear kR'
  replace q0 := keepc hb q0
  replace q1 := keepc hb q1
  replace q2 := keepc hb q2
  replace q3 := keepc hb q3
  replace q4 := keepc hb q4
  replace B0 := B0.trans (hb.mono B0.size)
  have hs2 := kR.lt
  have hs1 := hb.size
  have bq : Below w2.heap.size w2 (w2.alloc (.cells #[.slice sU nsU csU, .slice gU ngU cgU, .slice bU nbU cbU, .slice rU nrU crU, .slice (some ⟨T, 0, none⟩) ntU ctU] 26)) := (Below.refl _ _).alloc (Nat.le_refl _) _
  have kQ : Blk (w2.alloc (.cells #[.slice sU nsU csU, .slice gU ngU cgU, .slice bU nbU cbU, .slice rU nrU crU, .slice (some ⟨T, 0, none⟩) ntU ctU] 26)) w2.heap.size #[.slice sU nsU csU, .slice gU ngU cgU, .slice bU nbU cbU, .slice rU nrU crU, .slice (some ⟨T, 0, none⟩) ntU ctU] 26 := Blk.new _ _ _
  have hO := ou.below bq
  have kO' := kO.below bq
  clear kO
  have kO := kO'
  clear kO'
  have kR' := kR.below bq
  clear kR
  have kR := kR'
  clear kR'
  replace q0 := keepc bq q0
  replace q1 := keepc bq q1
  replace q2 := keepc bq q2
  replace q3 := keepc bq q3
  replace q4 := keepc bq q4
  replace B0 := B0.trans (bq.mono B0.size)
  clear bq ou hb
  go_upto_region 4 with fail
  replace g1 := keepc B0 G1W.out
  have hs1A : w1b.heap.size ≤ (w2.alloc (.cells #[.slice sU nsU csU, .slice gU ngU cgU, .slice bU nbU cbU, .slice rU nrU crU, .slice (some ⟨T, 0, none⟩) ntU ctU] 26)).heap.size := by have := hs1; simp; omega
  generalize (w2.alloc (.cells #[.slice sU nsU csU, .slice gU ngU cgU, .slice bU nbU cbU, .slice rU nrU crU, .slice (some ⟨T, 0, none⟩) ntU ctU] 26)) = WA at *
  generalize w2.heap.size = BQ at *
  have hnt : p.threads.length = ntU := by have := hO.ot.len; simpa [Pg.cells] using this
  have hnn : ntV = ntU := by have := lt.out; omega
  have hot := hO.ot.out
  dsimp only at hot
  have rWA : Rd WA a2 (opsV (p.threads.getD na [])) := HR2.out.keep (fun b o e hlt => B0.block b hlt)
  obtain ⟨LL, hL⟩ : ∃ LL, LL = opsV (p.threads.getD na []) := ⟨_, rfl⟩
  have one : ∀ u ∈ LL, u.oneCell' = true := by rw [hL]; exact opsV_one _
  have hll : LL.length = m * 3 := by rw [hL, opsV_len, ← HM.out]
  rw [← hL] at rWA
  have j0 : (0 : Int) ≤ (i : Int) := by omega
  have j1 : (i : Int) ≤ (c2 : Int) := by omega
  have j3 : (i : Int) ≤ (m : Int) := by omega
  have j4 : (m : Int) ≤ (c2 : Int) := by omega
  have i2 : (na : Int) < (ntU : Int) := by omega
  obtain ⟨A, hA⟩ : ∃ A : Option Addr, (if c2 = i then a2 else a2.map (·.add (i * 3))) = A := ⟨_, rfl⟩
  have hsl : ∀ w : World, (Instr.slice 34 (.slice a2 m c2) (some (.int .i64 i)) none none).run Try.prog w = .ok (.slice A (m - i) (c2 - i)) w := fun w => by
    rw [← hA]; go_simp
  have hsl1 : ∀ w : World, (Instr.slice 34 (.slice a2 m c2) none (some (.int .i64 i)) none).run Try.prog w = .ok (.slice a2 i c2) w := fun w => by
    cases a2 <;> go_simp
  have one1 : ∀ u ∈ LL.take (i * 3), u.oneCell' = true := fun u hu => one u (List.mem_of_mem_take hu)
  have oneD : ∀ u ∈ LL.drop (i * 3), u.oneCell' = true := fun u hu => one u (List.mem_of_mem_drop hu)
  have oneO : ∀ u ∈ opv o, u.oneCell' = true := by intro u hu; simp only [opv, List.mem_cons, List.not_mem_nil, or_false] at hu; rcases hu with rfl | rfl | rfl <;> rfl
  have HONE := Lib.hid (And.intro one1 (And.intro oneD oneO))
  have HLT : Hid ((LL.take (i * 3)).length = i * 3) := Lib.hid (by rw [List.length_take]; omega)
  have HLD : Hid ((LL.drop (i * 3)).length = (m - i) * 3) := Lib.hid (by rw [List.length_drop, hll]; omega)
  have HRS : Hid (Rd WA A (LL.drop (i * 3))) := Lib.hid (by
    rcases rWA with h | ⟨b, o', e, hc⟩
    · exact .inl (by rw [h]; simp)
    · subst e
      by_cases hce : c2 = i
      · exact .inl (List.drop_eq_nil_of_le (by rw [hll]; omega))
      · rw [if_neg hce] at hA
        exact .inr ⟨b, o' + i * 3, by rw [← hA, Option.map_some, Addr.add_lit], fun j hj => by
          rw [List.length_drop] at hj
          rw [Nat.add_assoc, hc _ (by omega)]
          simp [List.getD]⟩)
  have HRT : Hid (Rd WA a2 (LL.take (i * 3))) := Lib.hid (rWA.take (i * 3))
  have bE : Below WA.heap.size WA (WA.alloc (.cells #[] 44)) := (Below.refl _ _).alloc (Nat.le_refl _) _
  have q4E := keepc bE q4
  have g1E := keepc bE g1
  have hownE := owns_empty WA 44 3
  have hrT := HRT.out.below bE
  have HBE := Lib.hid bE
  have HOT := Lib.hid hot
  have HVL := Lib.hid hO.ot.vlen
  have HNT := Lib.hid hnt
  have HNN := Lib.hid hnn
  have HLE := Lib.hid hL
  have HO := Lib.hid hO
  have HND := Lib.hid hnd
  have HKQ := Lib.hid kQ
  have HKR := Lib.hid kR
  have HKO := Lib.hid kO
  have HQ4 := Lib.hid q4
  have HG1 := Lib.hid g1
  have HA2 := Lib.hid hA
  have hsE : WA.heap.size ≤ (WA.alloc (.cells #[] 44)).heap.size := bE.size
  clear hot hnt hO one kQ kR kO rWA hll hnn hL hnd q0 q1 q2 q3 q4 g1 bE one1 oneD oneO hA
  go_wp2_with (first | (at_builtin; refine wpList_append_rd (news := LL.take (i * 3)) rfl (.tmp 48) (.tmp 55) 34 rfl Try.underlying34 info_op rfl (by decide) rfl hownE rfl HLT.out hrT HONE.out.1 (by omega) (by decide) hsE ?_; intro a3 c3 w3 hown3 hgr3; simp only [Nat.zero_add, List.nil_append] at hown3; have HB3 := Lib.hid (HBE.out.trans (below_of_grown hgr3 hsE (fun q hq => (owns_row hownE q hq).1))); have hB3s := HB3.out.size; have kO3 := HKO.out.below HB3.out; have o0 := kO3.cell 0 rfl; have o1 := kO3.cell 1 rfl; have o2 := kO3.cell 2 rfl; clear hownE hrT hgr3 kO3 q4E g1E) | (at_builtin; refine wpList_append_sl (news := opv o) rfl (.tmp 57) (.tmp 59) 34 rfl Try.underlying34 info_op rfl (by decide) rfl hown3 rfl (by rw [opv_len]) rfl HONE.out.2.2 (by omega) (by decide) hB3s ?_; intro a4 c4 w4 hown4 hgr4; have HB4 := Lib.hid (HB3.out.trans (below_of_grown hgr4 hB3s (fun q hq => (owns_row hown3 q hq).1))); clear hown3 hgr4 o0 o1 o2))
  have e4 := (HKQ.out.below HB4.out).cell 4 rfl
  have q4 := keepc HB4.out HQ4.out
  have g1 := keepc HB4.out HG1.out
  have hsA := HB4.out.size
  have hWA := HB4.out
  have hblk : ∀ q, rowOf a4 = some q → WA.heap.size ≤ q := fun q hq => (owns_row hown4 q hq).1
  have hQX : BQ ∉ (rowOf a4).toList := fun h => by have := hblk BQ (by simpa using h); have := HKQ.out.lt; omega
  have hSX : w.heap.size ∉ (rowOf a4).toList := fun h => by have := hblk w.heap.size (by simpa using h); have := B0.size; omega
  have hBX : bt ∉ (rowOf a4).toList := fun h => by have := hblk bt (by simpa using h); have := World.block_lt_of_cell? _ _ HG1.out; simp only at this; omega
  have HOW4 := Lib.hid hown4
  have HRS4 := Lib.hid (HRS.out.below HB4.out)
  have HBLK := Lib.hid hblk
  clear hown4 hWA hblk
  refine wp_region_steps 12 (by kernel_rfl) (by kernel_rfl) [fun dz uz wz => uz = .pointer (some ⟨BQ, 4, none⟩), fun dz uz wz => uz = .slice (some ⟨T, 0, none⟩) ntU ctU, fun dz uz wz => uz = .int .i64 na, fun dz uz wz => uz = .slice a4 (i + 1) c4, fun dz uz wz => uz = .pointer (some ⟨w.heap.size, 4, none⟩), fun dz uz wz => uz = .slice (some ⟨bt, ox, none⟩) ntV ctV, fun dz uz wz => uz = .int .i64 na, fun dz uz wz => uz = .pointer (some ⟨bt, ox + na, none⟩), fun dz uz wz => uz = .slice a2 m c2, fun dz uz wz => uz = .int .i64 i, fun dz uz wz => uz = .slice A (m - i) (c2 - i), fun dz uz wz => (∃ (a' : Option Addr) (c' : Nat), uz = .slice a' (i + 1 + (m - i)) c' ∧ wz.ownsRow WA.heap.size 44 3 (.slice a' (i + 1 + (m - i)) c') (i + 1 + (m - i)) (LL.take (i * 3) ++ opv o ++ LL.drop (i * 3)))] (St1 11 (Touch (rowOf a4).toList)) (fun _ _ => none) (Stage 11 (rowOf a4).toList w4) (Stage.start _ _ _) (st1_size (fun _ _ h => h.size)) (stab1_of ⟨fun _ _ _ _ _ h => h, fun _ _ _ _ _ h => h, fun _ _ _ _ _ h => h, fun _ _ _ _ _ h => h, fun _ _ _ _ _ h => h, fun _ _ _ _ _ h => h, fun _ _ _ _ _ h => h, fun _ _ _ _ _ h => h, fun _ _ _ _ _ h => h, fun _ _ _ _ _ h => h, fun _ _ _ _ _ h => h, fun _ _ _ _ hb ⟨a, c, e, h⟩ => ⟨a, c, e, owns_below h hb⟩, trivial⟩ ⟨.inr (fun _ _ _ _ _ h => h), .inr (fun _ _ _ _ _ h => h), .inr (fun _ _ _ _ _ h => h), .inr (fun _ _ _ _ _ h => h), .inr (fun _ _ _ _ _ h => h), .inr (fun _ _ _ _ _ h => h), .inr (fun _ _ _ _ _ h => h), .inr (fun _ _ _ _ _ h => h), .inr (fun _ _ _ _ _ h => h), .inr (fun _ _ _ _ _ h => h), .inr (fun _ _ _ _ _ h => h), .inl rfl, trivial⟩) ?_ ?_
  · simp only [List.take_succ_cons, List.take_zero]
    refine ⟨?_, ?_, ?_, ?_, ?_, ?_, ?_, ?_, ?_, ?_, ?_, ?_, trivial⟩
    · intro ρ w1 L hG hny hfr hd
      have fc : ∀ z, ρ (.const z) = z := fun _ => hfr _ rfl
      have ff : ∀ z, ρ (.func z) = .func (.func z) #[] #[] := fun _ => hfr _ rfl
      have f10 : ρ (.tmp 10) = .pointer (some ⟨BQ, 0, none⟩) := hfr _ rfl
      refine gives_val (u := .pointer (some ⟨BQ, 4, none⟩)) (w' := w1) (by go_simp) ⟨st1_below (by decide) (Below.refl _ _), rfl, (fun _ hk => by cases hk), hG.step (by decide) (Below.refl _ _)⟩
    · intro ρ w1 L hG hny hfr hd
      have fc : ∀ z, ρ (.const z) = z := fun _ => hfr _ rfl
      have ff : ∀ z, ρ (.func z) = .func (.func z) #[] #[] := fun _ => hfr _ rfl
      obtain ⟨d0, -⟩ := hd
      have d0 : (ρ (.tmp 61)) = .pointer (some ⟨BQ, 4, none⟩) := d0
      have e4 := cell_touch hG.2 e4 (hQX)
      refine gives_val (u := .slice (some ⟨T, 0, none⟩) ntU ctU) (w' := w1) (by go_simp) ⟨st1_below (by decide) (Below.refl _ _), rfl, (fun _ hk => by cases hk), hG.step (by decide) (Below.refl _ _)⟩
    · intro ρ w1 L hG hny hfr hd
      have fc : ∀ z, ρ (.const z) = z := fun _ => hfr _ rfl
      have ff : ∀ z, ρ (.func z) = .func (.func z) #[] #[] := fun _ => hfr _ rfl
      have f1 : ρ (.tmp 1) = .int .i64 na := hfr _ rfl
      refine gives_val (u := .int .i64 na) (w' := w1) (by go_simp) ⟨st1_below (by decide) (Below.refl _ _), rfl, (fun _ hk => by cases hk), hG.step (by decide) (Below.refl _ _)⟩
    · intro ρ w1 L hG hny hfr hd
      have fc : ∀ z, ρ (.const z) = z := fun _ => hfr _ rfl
      have ff : ∀ z, ρ (.func z) = .func (.func z) #[] #[] := fun _ => hfr _ rfl
      have f11 : ρ (.tmp 11) = .slice a4 (i + 1) c4 := hfr _ rfl
      refine gives_val (u := .slice a4 (i + 1) c4) (w' := w1) (by go_simp) ⟨st1_below (by decide) (Below.refl _ _), rfl, (fun _ hk => by cases hk), hG.step (by decide) (Below.refl _ _)⟩
    · intro ρ w1 L hG hny hfr hd
      have fc : ∀ z, ρ (.const z) = z := fun _ => hfr _ rfl
      have ff : ∀ z, ρ (.func z) = .func (.func z) #[] #[] := fun _ => hfr _ rfl
      have f4 : ρ (.tmp 4) = .pointer (some ⟨w.heap.size, 0, none⟩) := hfr _ rfl
      refine gives_val (u := .pointer (some ⟨w.heap.size, 4, none⟩)) (w' := w1) (by go_simp) ⟨st1_below (by decide) (Below.refl _ _), rfl, (fun _ hk => by cases hk), hG.step (by decide) (Below.refl _ _)⟩
    · intro ρ w1 L hG hny hfr hd
      have fc : ∀ z, ρ (.const z) = z := fun _ => hfr _ rfl
      have ff : ∀ z, ρ (.func z) = .func (.func z) #[] #[] := fun _ => hfr _ rfl
      obtain ⟨d0, -⟩ := hd
      have d0 : (ρ (.tmp 65)) = .pointer (some ⟨w.heap.size, 4, none⟩) := d0
      have q4 := cell_touch hG.2 q4 (hSX)
      refine gives_val (u := .slice (some ⟨bt, ox, none⟩) ntV ctV) (w' := w1) (by go_simp) ⟨st1_below (by decide) (Below.refl _ _), rfl, (fun _ hk => by cases hk), hG.step (by decide) (Below.refl _ _)⟩
    · intro ρ w1 L hG hny hfr hd
      have fc : ∀ z, ρ (.const z) = z := fun _ => hfr _ rfl
      have ff : ∀ z, ρ (.func z) = .func (.func z) #[] #[] := fun _ => hfr _ rfl
      have f1 : ρ (.tmp 1) = .int .i64 na := hfr _ rfl
      refine gives_val (u := .int .i64 na) (w' := w1) (by go_simp) ⟨st1_below (by decide) (Below.refl _ _), rfl, (fun _ hk => by cases hk), hG.step (by decide) (Below.refl _ _)⟩
    · intro ρ w1 L hG hny hfr hd
      have fc : ∀ z, ρ (.const z) = z := fun _ => hfr _ rfl
      have ff : ∀ z, ρ (.func z) = .func (.func z) #[] #[] := fun _ => hfr _ rfl
      obtain ⟨d0, d1, -⟩ := hd
      have d0 : (ρ (.tmp 66)) = .slice (some ⟨bt, ox, none⟩) ntV ctV := d0
      have d1 : (ρ (.tmp 67)) = .int .i64 na := d1
      refine gives_val (u := .pointer (some ⟨bt, ox + na, none⟩)) (w' := w1) (by go_simp) ⟨st1_below (by decide) (Below.refl _ _), rfl, (fun _ hk => by cases hk), hG.step (by decide) (Below.refl _ _)⟩
    · intro ρ w1 L hG hny hfr hd
      have fc : ∀ z, ρ (.const z) = z := fun _ => hfr _ rfl
      have ff : ∀ z, ρ (.func z) = .func (.func z) #[] #[] := fun _ => hfr _ rfl
      obtain ⟨d0, -⟩ := hd
      have d0 : (ρ (.tmp 68)) = .pointer (some ⟨bt, ox + na, none⟩) := d0
      have g1 := cell_touch hG.2 g1 (hBX)
      refine gives_val (u := .slice a2 m c2) (w' := w1) (by go_simp) ⟨st1_below (by decide) (Below.refl _ _), rfl, (fun _ hk => by cases hk), hG.step (by decide) (Below.refl _ _)⟩
    · intro ρ w1 L hG hny hfr hd
      have fc : ∀ z, ρ (.const z) = z := fun _ => hfr _ rfl
      have ff : ∀ z, ρ (.func z) = .func (.func z) #[] #[] := fun _ => hfr _ rfl
      have f2 : ρ (.tmp 2) = .int .i64 i := hfr _ rfl
      refine gives_val (u := .int .i64 i) (w' := w1) (by go_simp) ⟨st1_below (by decide) (Below.refl _ _), rfl, (fun _ hk => by cases hk), hG.step (by decide) (Below.refl _ _)⟩
    · intro ρ w1 L hG hny hfr hd
      have fc : ∀ z, ρ (.const z) = z := fun _ => hfr _ rfl
      have ff : ∀ z, ρ (.func z) = .func (.func z) #[] #[] := fun _ => hfr _ rfl
      obtain ⟨d0, d1, -⟩ := hd
      have d0 : (ρ (.tmp 69)) = .slice a2 m c2 := d0
      have d1 : (ρ (.tmp 70)) = .int .i64 i := d1
      refine gives_val (u := .slice A (m - i) (c2 - i)) (w' := w1) (by go_simp) ⟨st1_below (by decide) (Below.refl _ _), rfl, (fun _ hk => by cases hk), hG.step (by decide) (Below.refl _ _)⟩
    · intro ρ w1 L hG hny hfr hd
      have fc : ∀ z, ρ (.const z) = z := fun _ => hfr _ rfl
      have ff : ∀ z, ρ (.func z) = .func (.func z) #[] #[] := fun _ => hfr _ rfl
      obtain ⟨d0, d1, -⟩ := hd
      have d0 : (ρ (.tmp 64)) = .slice a4 (i + 1) c4 := d0
      have d1 : (ρ (.tmp 71)) = .slice A (m - i) (c2 - i) := d1
      have hL := hny 11 _ rfl (by kernel_rfl)
      have hbe := hG.1 hL
      have hown := owns_below HOW4.out hbe
      have hsz := hbe.size
      refine gives_append_keep _ _ 34 rfl Try.underlying34 info_op rfl (by decide) d0 hown d1 HLD.out (HRS4.out.below hbe) HONE.out.2.1 (by omega) (by decide) (by omega) ?_
      intro a' c' w2 hown2 hgr hkeep
      have hT : Touch (rowOf a4).toList w1 w2 := Touch.of_grown hgr (fun q hq => by simpa using hq)
      exact ⟨st1_own hT, ⟨a', c', rfl, hown2⟩, (fun _ hk => by cases hk), hG.own hT⟩
  intro vs w2 L hG hlen hall hap hbd
  obtain ⟨xv0, vs0, rfl, hl0⟩ := len_cons hlen
  obtain ⟨xv1, vs1, rfl, hl1⟩ := len_cons hl0
  obtain ⟨xv2, vs2, rfl, hl2⟩ := len_cons hl1
  obtain ⟨xv3, vs3, rfl, hl3⟩ := len_cons hl2
  obtain ⟨xv4, vs4, rfl, hl4⟩ := len_cons hl3
  obtain ⟨xv5, vs5, rfl, hl5⟩ := len_cons hl4
  obtain ⟨xv6, vs6, rfl, hl6⟩ := len_cons hl5
  obtain ⟨xv7, vs7, rfl, hl7⟩ := len_cons hl6
  obtain ⟨xv8, vs8, rfl, hl8⟩ := len_cons hl7
  obtain ⟨xv9, vs9, rfl, hl9⟩ := len_cons hl8
  obtain ⟨xv10, vs10, rfl, hl10⟩ := len_cons hl9
  obtain ⟨xv11, vs11, rfl, hl11⟩ := len_cons hl10
  obtain rfl := len_nil hl11
  clear hlen hl0 hl1 hl2 hl3 hl4 hl5 hl6 hl7 hl8 hl9 hl10 hl11
  simp only [List.take_succ_cons, List.take_zero, List.drop_succ_cons, List.drop_zero] at hall ⊢
  obtain ⟨t0', t1', t2', t3', t4', t5', t6', t7', t8', t9', t10', t11', -⟩ := hall
  have hv0 : xv0 = .pointer (some ⟨BQ, 4, none⟩) := t0'
  have hv1 : xv1 = .slice (some ⟨T, 0, none⟩) ntU ctU := t1'
  have hv2 : xv2 = .int .i64 na := t2'
  have hv3 : xv3 = .slice a4 (i + 1) c4 := t3'
  have hv4 : xv4 = .pointer (some ⟨w.heap.size, 4, none⟩) := t4'
  have hv5 : xv5 = .slice (some ⟨bt, ox, none⟩) ntV ctV := t5'
  have hv6 : xv6 = .int .i64 na := t6'
  have hv7 : xv7 = .pointer (some ⟨bt, ox + na, none⟩) := t7'
  have hv8 : xv8 = .slice a2 m c2 := t8'
  have hv9 : xv9 = .int .i64 i := t9'
  have hv10 : xv10 = .slice A (m - i) (c2 - i) := t10'
  have hv11 : (∃ (a' : Option Addr) (c' : Nat), xv11 = .slice a' (i + 1 + (m - i)) c' ∧ w2.ownsRow WA.heap.size 44 3 (.slice a' (i + 1 + (m - i)) c') (i + 1 + (m - i)) (LL.take (i * 3) ++ opv o ++ LL.drop (i * 3))) := t11'
  clear t0' t1' t2' t3' t4' t5' t6' t7' t8' t9' t10' t11'
  clear hap hbd
  subst hv0 hv1 hv2 hv3 hv4 hv5 hv6 hv7 hv8 hv9 hv10
  simp only [putAll, Act.put, List.setIfInBounds_toArray, List.set_cons_succ, List.set_cons_zero]
  obtain ⟨a5, c5, rfl, hown5⟩ := hv11
  have hBW : Below WA.heap.size WA w2 := HB4.out.trans (hG.2.below hsA (fun q hq => HBLK.out q (by simpa using hq)))
  have hot2 := owns_below HOT.out hBW
  have kQ2 := HKQ.out.below hBW
  have kR2 := HKR.out.below hBW
  have hRQ : w.heap.size + 1 + 1 ≠ BQ := by omega
  have hRT : w.heap.size + 1 + 1 ≠ T := by omega
  have hQT : BQ ≠ T := fun e => blk_owns kQ2 hot2 types_ne.2.2.2.1 (by rw [e]; rfl)
  have hvl : us.length = ntU := HVL.out
  have gT : (w2.cell? ⟨T, na, none⟩) = some (us.getD na undef) := (by rw [hot2.cellAt na (by omega), List.getD_eq_getElem?_getD, List.getElem?_eq_getElem (by omega)]; rfl)
  have fT := hot2.frozenAt na
  have kQ4 := kQ2.other ⟨T, na, none⟩ (.slice a5 (i + 1 + (m - i)) c5) hQT
  have kR4 := kR2.other ⟨T, na, none⟩ (.slice a5 (i + 1 + (m - i)) c5) hRT
  have g0' := kQ4.cell 0 rfl
  have g1' := kQ4.cell 1 rfl
  have g2' := kQ4.cell 2 rfl
  have g3' := kQ4.cell 3 rfl
  have g4' := kQ4.cell 4 rfl
  have y0 := kR4.cell 0 rfl
  have x0 := kR4.fz 0
  have y1 := kR4.cell 1 rfl
  have x1 := kR4.fz 1
  have y2 := kR4.cell 2 rfl
  have x2 := kR4.fz 2
  have y3 := kR4.cell 3 rfl
  have x3 := kR4.fz 3
  have y4 := kR4.cell 4 rfl
  have x4 := kR4.fz 4
  have HB3' := Lib.hid hBW
  have H41 := Lib.hid hown5
  clear hot2 kQ2 kR2 kQ4 kR4 hown5 hG hvl hBW
  go_wp2
  have HF := hfr
  refine bodyPost_ret (v := .tuple #[.agg #[.slice sU nsU csU, .slice gU ngU cgU, .slice bU nbU cbU, .slice rU nrU crU, .slice (some ⟨T, 0, none⟩) ntU ctU], .bool true]) (by simp [results, Try.results17, go_sem, y0, y1, y2, y3, y4]) rfl ⟨(PV.mk sU nsU csU gU ngU cgU bU nbU cbU rU nrU crU (some ⟨T, 0, none⟩) ntU ctU), us.set na (.slice a5 (i + 1 + (m - i)) c5), by rw [HN.out]; rfl, ?_, ?_⟩
  · rw [HN.out]
    simp only [Option.getD_some, Int.toNat_natCast]
    have hnew := H41.out
    rw [HLE.out, ← opsV_insert _ i o (by rw [← HM.out]; exact hi)] at hnew
    have hfin := ownP_row HO.out HND.out rfl (show na < ntU by omega) (show us.getD na undef = .slice _ _ _ from (HO.out.row (i := na) (show na < ntU by omega)).choose_spec.choose_spec.1) (grown_below HB3'.out) (owns_mono hnew (Nat.zero_le _))
    have hF2 : ∀ k ∈ fpP (PV.mk sU nsU csU gU ngU cgU bU nbU cbU rU nrU crU (some ⟨T, 0, none⟩) ntU ctU) (us.set na (.slice a5 (i + 1 + (m - i)) c5)), w1b.heap.size ≤ k := fp_thr HF (fun k hk => by simp [rowOf] at hk; omega) (fun y hy k hk => by
      rcases List.mem_or_eq_of_mem_set hy with hy | rfl
      · exact HF k (mem_fp_row hy hk)
      · rw [ownBlock_slice] at hk
        have := (owns_row H41.out k hk).1; omega)
    refine hfin.touch (S := [w.heap.size + 1 + 1]) ?_ (fun k hk hm => by have := hF2 k hk; simp at hm; omega)
    exact Touch.set (Touch.set (Touch.set (Touch.set (Touch.set (Touch.refl _ _) (by simp)) (by simp)) (by simp)) (by simp)) (by simp)
  · have BE := (B0.trans (HB3'.out.mono B0.size)).setCell (show w.heap.size ≤ (⟨T, na, none⟩ : Addr).block from (by omega : w.heap.size ≤ T)) (.slice a5 (i + 1 + (m - i)) c5)
    exact ((((BE.setCell (by show w.heap.size ≤ w.heap.size + 1 + 1; omega) _).setCell (by show w.heap.size ≤ w.heap.size + 1 + 1; omega) _).setCell (by show w.heap.size ≤ w.heap.size + 1 + 1; omega) _).setCell (by show w.heap.size ≤ w.heap.size + 1 + 1; omega) _).setCell (by show w.heap.size ≤ w.heap.size + 1 + 1; omega) _

end Go.Proofs.Ytnobkdkfhgjeeab
