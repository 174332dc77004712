/- DropOp: the reference's text. -/
import Derived.Test.YtnobkdkfhgjeeabCutSpec
import Derived.Test.YtnobkdkfhgjeeabDropKit
import Derived.Test.YtnobkdkfhgjeeabRowKit
import Derived.Test.YtnobkdkfhgjeeabBaseD
namespace Go.Proofs.Ytnobkdkfhgjeeab
open Go.RowKit

/-- The threads' slices have the room that their lengths say. -/
def CapT (w : World) (v : PV) (p : Pg) : Prop := ∀ b o, v.t = some ⟨b, o, none⟩ → ∀ i, i < p.threads.length → ∀ a n c, w.cell? ⟨b, o + i, none⟩ = some (.slice a n c) → n ≤ c
theorem OwnP.cap {w : World} {u : PV} {us : List Value} {p : Pg} (hO : OwnP w u us p.cells) : CapT w u p := by
  intro b o e i hi a n c hc
  have hl : p.threads.length = u.nt := by have := hO.ot.len; simpa [Pg.cells] using this
  have hvl := hO.ot.vlen
  obtain ⟨g, eg, -, -⟩ := owns_at hO.ot.out (by omega)
  have ho := hO.ot.out
  rw [eg] at e ho
  simp only [Option.some.injEq, Addr.mk.injEq, and_true] at e
  obtain ⟨rfl, rfl⟩ := e
  obtain ⟨a', c', e', hr⟩ := hO.row (i := i) (by omega)
  rw [Nat.zero_add, ho.cellAt i (by omega), List.getElem?_eq_getElem (by omega)] at hc
  have e2 : us.getD i undef = us[i] := by simp [List.getD, show i < us.length by omega]
  rw [e2] at e'
  rw [e'] at hc
  have := (owns_cap hr).1
  simp only [Option.some.injEq, Value.slice.injEq] at hc
  omega

set_option maxRecDepth 100000 in
set_option maxHeartbeats 4000000 in
theorem specDropOp_any (v : PV) (p : Pg) (a x : Int) (w : World) (hr : RdP w v p) (hz : Small v p) (hcap : CapT w v p) :
    Calls Try.prog 28 #[.agg #[.slice v.s v.ns v.cs, .slice v.g v.ng v.cg, .slice v.b v.nb v.cb, .slice v.r v.nr v.cr, .slice v.t v.nt v.ct], .int .i64 a, .int .i64 x] w fun e w' => ∃ u : PV, e = .returned (.tuple #[.agg #[.slice u.s u.ns u.cs, .slice u.g u.ng u.cg, .slice u.b u.nb u.cb, .slice u.r u.nr u.cr, .slice u.t u.nt u.ct], .bool (dropOp p a x).isSome]) ∧ RdP w' u ((dropOp p a x).getD noPg) ∧ Below w.heap.size w w' := by
  rcases Bool.eq_false_or_eq_true (isThr p a) with ha | ha
  rotate_left
  · have hs : v.ns ≤ maxLen ∧ v.ng ≤ maxLen ∧ v.nb ≤ maxLen ∧ v.nr ≤ maxLen := by
      obtain ⟨z1, z2, z3, z4, z5, z6⟩ := hz; unfold maxLen; omega
    have zz : Hid (v.ns ≤ maxLen ∧ v.ng ≤ maxLen ∧ v.nb ≤ maxLen ∧ v.nr ≤ maxLen) := Lib.hid hs
    have HZ := Lib.hid hz
    have z5 : v.nt ≤ 1048576 := hz.lt
    have Z6 := Lib.hid hz.inn
    have ls := Lib.hid hr.ls
    have lg := Lib.hid hr.lg
    have lb := Lib.hid hr.lb
    have lr := Lib.hid hr.lr
    have lt := Lib.hid hr.lt
    clear hz
    have B0 : Below w.heap.size w (w.alloc (.cells #[.slice v.s v.ns v.cs, .slice v.g v.ng v.cg, .slice v.b v.nb v.cb, .slice v.r v.nr v.cr, .slice v.t v.nt v.ct] 26)) := (Below.refl _ _).alloc (Nat.le_refl _) _
    have k0 : Blk (w.alloc (.cells #[.slice v.s v.ns v.cs, .slice v.g v.ng v.cg, .slice v.b v.nb v.cb, .slice v.r v.nr v.cr, .slice v.t v.nt v.ct] 26)) w.heap.size #[.slice v.s v.ns v.cs, .slice v.g v.ng v.cg, .slice v.b v.nb v.cb, .slice v.r v.nr v.cr, .slice v.t v.nt v.ct] 26 := Blk.new _ _ _
    have q0 : (w.alloc (.cells #[.slice v.s v.ns v.cs, .slice v.g v.ng v.cg, .slice v.b v.nb v.cb, .slice v.r v.nr v.cr, .slice v.t v.nt v.ct] 26)).cell? ⟨w.heap.size, 0, none⟩ = some (.slice v.s v.ns v.cs) := k0.cell 0 rfl
    have q1 : (w.alloc (.cells #[.slice v.s v.ns v.cs, .slice v.g v.ng v.cg, .slice v.b v.nb v.cb, .slice v.r v.nr v.cr, .slice v.t v.nt v.ct] 26)).cell? ⟨w.heap.size, 1, none⟩ = some (.slice v.g v.ng v.cg) := k0.cell 1 rfl
    have q2 : (w.alloc (.cells #[.slice v.s v.ns v.cs, .slice v.g v.ng v.cg, .slice v.b v.nb v.cb, .slice v.r v.nr v.cr, .slice v.t v.nt v.ct] 26)).cell? ⟨w.heap.size, 2, none⟩ = some (.slice v.b v.nb v.cb) := k0.cell 2 rfl
    have q3 : (w.alloc (.cells #[.slice v.s v.ns v.cs, .slice v.g v.ng v.cg, .slice v.b v.nb v.cb, .slice v.r v.nr v.cr, .slice v.t v.nt v.ct] 26)).cell? ⟨w.heap.size, 3, none⟩ = some (.slice v.r v.nr v.cr) := k0.cell 3 rfl
    have q4 : (w.alloc (.cells #[.slice v.s v.ns v.cs, .slice v.g v.ng v.cg, .slice v.b v.nb v.cb, .slice v.r v.nr v.cr, .slice v.t v.nt v.ct] 26)).cell? ⟨w.heap.size, 4, none⟩ = some (.slice v.t v.nt v.ct) := k0.cell 4 rfl
    clear k0
    obtain ⟨W0, hW0⟩ : ∃ W0 : World, W0 = ((w.alloc (.cells #[.slice v.s v.ns v.cs, .slice v.g v.ng v.cg, .slice v.b v.nb v.cb, .slice v.r v.nr v.cr, .slice v.t v.nt v.ct] 26)).alloc (.cells #[.slice none 0 0, .slice none 0 0, .slice none 0 0, .slice none 0 0, .slice none 0 0] 26)) := ⟨_, rfl⟩
    have b1 : Below (w.alloc (.cells #[.slice v.s v.ns v.cs, .slice v.g v.ng v.cg, .slice v.b v.nb v.cb, .slice v.r v.nr v.cr, .slice v.t v.nt v.ct] 26)).heap.size (w.alloc (.cells #[.slice v.s v.ns v.cs, .slice v.g v.ng v.cg, .slice v.b v.nb v.cb, .slice v.r v.nr v.cr, .slice v.t v.nt v.ct] 26)) ((w.alloc (.cells #[.slice v.s v.ns v.cs, .slice v.g v.ng v.cg, .slice v.b v.nb v.cb, .slice v.r v.nr v.cr, .slice v.t v.nt v.ct] 26)).alloc (.cells #[.slice none 0 0, .slice none 0 0, .slice none 0 0, .slice none 0 0, .slice none 0 0] 26)) := (Below.refl _ _).alloc (Nat.le_refl _) _
    have kR : Blk ((w.alloc (.cells #[.slice v.s v.ns v.cs, .slice v.g v.ng v.cg, .slice v.b v.nb v.cb, .slice v.r v.nr v.cr, .slice v.t v.nt v.ct] 26)).alloc (.cells #[.slice none 0 0, .slice none 0 0, .slice none 0 0, .slice none 0 0, .slice none 0 0] 26)) (w.heap.size + 1) #[.slice none 0 0, .slice none 0 0, .slice none 0 0, .slice none 0 0, .slice none 0 0] 26 := by simpa using Blk.new (w.alloc (.cells #[.slice v.s v.ns v.cs, .slice v.g v.ng v.cg, .slice v.b v.nb v.cb, .slice v.r v.nr v.cr, .slice v.t v.nt v.ct] 26)) #[.slice none 0 0, .slice none 0 0, .slice none 0 0, .slice none 0 0, .slice none 0 0] 26
    replace q0 := keepc b1 q0
    replace q1 := keepc b1 q1
    replace q2 := keepc b1 q2
    replace q3 := keepc b1 q3
    replace q4 := keepc b1 q4
    replace B0 := B0.trans (b1.mono B0.size)
    have HW0 := Lib.hid hW0
    rw [← hW0] at q0 q1 q2 q3 q4 B0 kR
    clear b1 hW0
    have HN : Hid (dropOp p a x = none) := Lib.hid (change_not ha)
    have HA := Lib.hid ha
    clear ha
    go_enter Try.func28, Try.ntmps28
    go_wp2_with fail
    rw [← HW0.out]
    refine (l11Thread_any v p a _ (hr.below B0) HZ.out).mono ?_
    rintro e w1 ⟨rfl, hb⟩
    rw [HA.out]
    have kR' := kR.below hb
    clear kR
    have kR := kR'
    clear kR'
    replace q0 := keepc hb q0
    replace q1 := keepc hb q1
    replace q2 := keepc hb q2
    replace q3 := keepc hb q3
    replace q4 := keepc hb q4
    replace B0 := B0.trans (hb.mono B0.size)
    clear hb
    have y0 := kR.cell 0 rfl
    have x0 := kR.fz 0
    have y1 := kR.cell 1 rfl
    have x1 := kR.fz 1
    have y2 := kR.cell 2 rfl
    have x2 := kR.fz 2
    have y3 := kR.cell 3 rfl
    have x3 := kR.fz 3
    have y4 := kR.cell 4 rfl
    have x4 := kR.fz 4
    go_wp2
    refine bodyPost_ret (v := .tuple #[.agg #[.slice none 0 0, .slice none 0 0, .slice none 0 0, .slice none 0 0, .slice none 0 0], .bool false]) (by simp [results, Try.results28, go_sem, y0, y1, y2, y3, y4]) rfl ⟨nilPV, by rw [HN.out]; rfl, by rw [HN.out]; exact (own_nil _).rd, ?_⟩
    exact ((((B0.setCell (Nat.le_add_right _ _) _).setCell (Nat.le_add_right _ _) _).setCell (Nat.le_add_right _ _) _).setCell (Nat.le_add_right _ _) _).setCell (Nat.le_add_right _ _) _
  obtain ⟨_, ha0, ha1⟩ := isThr_iff.1 ha
  obtain ⟨bt, ox, ea, hthr⟩ := hr.thr (by omega)
  obtain ⟨sV, nsV, csV, gV, ngV, cgV, bV, nbV, cbV, rV, nrV, crV, tV, ntV, ctV⟩ := v
  dsimp only at ea
  subst ea
  dsimp only
  have hcw := hcap bt ox rfl
  clear hcap
  have hs : nsV ≤ maxLen ∧ ngV ≤ maxLen ∧ nbV ≤ maxLen ∧ nrV ≤ maxLen := by
    have z1 : nsV ≤ 1048576 := hz.ls; have z2 : ngV ≤ 1048576 := hz.lg; have z3 : nbV ≤ 1048576 := hz.lb; have z4 : nrV ≤ 1048576 := hz.lr; unfold maxLen; omega
  have zz : Hid (nsV ≤ maxLen ∧ ngV ≤ maxLen ∧ nbV ≤ maxLen ∧ nrV ≤ maxLen) := Lib.hid hs
  have HZ := Lib.hid hz
  have z5 : ntV ≤ 1048576 := hz.lt
  have Z6 := Lib.hid hz.inn
  have ls : Hid (p.sems.length = nsV) := Lib.hid hr.ls
  have lg : Hid (p.groups.length = ngV) := Lib.hid hr.lg
  have lb : Hid (p.barriers.length = nbV) := Lib.hid hr.lb
  have lr : Hid (p.rooms.length = nrV) := Lib.hid hr.lr
  have lt : Hid (p.threads.length = ntV) := Lib.hid hr.lt
  clear hz
  have B0 : Below w.heap.size w (w.alloc (.cells #[.slice sV nsV csV, .slice gV ngV cgV, .slice bV nbV cbV, .slice rV nrV crV, .slice (some ⟨bt, ox, none⟩) ntV ctV] 26)) := (Below.refl _ _).alloc (Nat.le_refl _) _
  have k0 : Blk (w.alloc (.cells #[.slice sV nsV csV, .slice gV ngV cgV, .slice bV nbV cbV, .slice rV nrV crV, .slice (some ⟨bt, ox, none⟩) ntV ctV] 26)) w.heap.size #[.slice sV nsV csV, .slice gV ngV cgV, .slice bV nbV cbV, .slice rV nrV crV, .slice (some ⟨bt, ox, none⟩) ntV ctV] 26 := Blk.new _ _ _
  have q0 : (w.alloc (.cells #[.slice sV nsV csV, .slice gV ngV cgV, .slice bV nbV cbV, .slice rV nrV crV, .slice (some ⟨bt, ox, none⟩) ntV ctV] 26)).cell? ⟨w.heap.size, 0, none⟩ = some (.slice sV nsV csV) := k0.cell 0 rfl
  have q1 : (w.alloc (.cells #[.slice sV nsV csV, .slice gV ngV cgV, .slice bV nbV cbV, .slice rV nrV crV, .slice (some ⟨bt, ox, none⟩) ntV ctV] 26)).cell? ⟨w.heap.size, 1, none⟩ = some (.slice gV ngV cgV) := k0.cell 1 rfl
  have q2 : (w.alloc (.cells #[.slice sV nsV csV, .slice gV ngV cgV, .slice bV nbV cbV, .slice rV nrV crV, .slice (some ⟨bt, ox, none⟩) ntV ctV] 26)).cell? ⟨w.heap.size, 2, none⟩ = some (.slice bV nbV cbV) := k0.cell 2 rfl
  have q3 : (w.alloc (.cells #[.slice sV nsV csV, .slice gV ngV cgV, .slice bV nbV cbV, .slice rV nrV crV, .slice (some ⟨bt, ox, none⟩) ntV ctV] 26)).cell? ⟨w.heap.size, 3, none⟩ = some (.slice rV nrV crV) := k0.cell 3 rfl
  have q4 : (w.alloc (.cells #[.slice sV nsV csV, .slice gV ngV cgV, .slice bV nbV cbV, .slice rV nrV crV, .slice (some ⟨bt, ox, none⟩) ntV ctV] 26)).cell? ⟨w.heap.size, 4, none⟩ = some (.slice (some ⟨bt, ox, none⟩) ntV ctV) := k0.cell 4 rfl
  clear k0
  obtain ⟨W0, hW0⟩ : ∃ W0 : World, W0 = ((w.alloc (.cells #[.slice sV nsV csV, .slice gV ngV cgV, .slice bV nbV cbV, .slice rV nrV crV, .slice (some ⟨bt, ox, none⟩) ntV ctV] 26)).alloc (.cells #[.slice none 0 0, .slice none 0 0, .slice none 0 0, .slice none 0 0, .slice none 0 0] 26)) := ⟨_, rfl⟩
  have b1 : Below (w.alloc (.cells #[.slice sV nsV csV, .slice gV ngV cgV, .slice bV nbV cbV, .slice rV nrV crV, .slice (some ⟨bt, ox, none⟩) ntV ctV] 26)).heap.size (w.alloc (.cells #[.slice sV nsV csV, .slice gV ngV cgV, .slice bV nbV cbV, .slice rV nrV crV, .slice (some ⟨bt, ox, none⟩) ntV ctV] 26)) ((w.alloc (.cells #[.slice sV nsV csV, .slice gV ngV cgV, .slice bV nbV cbV, .slice rV nrV crV, .slice (some ⟨bt, ox, none⟩) ntV ctV] 26)).alloc (.cells #[.slice none 0 0, .slice none 0 0, .slice none 0 0, .slice none 0 0, .slice none 0 0] 26)) := (Below.refl _ _).alloc (Nat.le_refl _) _
  have kR : Blk ((w.alloc (.cells #[.slice sV nsV csV, .slice gV ngV cgV, .slice bV nbV cbV, .slice rV nrV crV, .slice (some ⟨bt, ox, none⟩) ntV ctV] 26)).alloc (.cells #[.slice none 0 0, .slice none 0 0, .slice none 0 0, .slice none 0 0, .slice none 0 0] 26)) (w.heap.size + 1) #[.slice none 0 0, .slice none 0 0, .slice none 0 0, .slice none 0 0, .slice none 0 0] 26 := by simpa using Blk.new (w.alloc (.cells #[.slice sV nsV csV, .slice gV ngV cgV, .slice bV nbV cbV, .slice rV nrV crV, .slice (some ⟨bt, ox, none⟩) ntV ctV] 26)) #[.slice none 0 0, .slice none 0 0, .slice none 0 0, .slice none 0 0, .slice none 0 0] 26
  replace q0 := keepc b1 q0
  replace q1 := keepc b1 q1
  replace q2 := keepc b1 q2
  replace q3 := keepc b1 q3
  replace q4 := keepc b1 q4
  replace B0 := B0.trans (b1.mono B0.size)
  have HW0 := Lib.hid hW0
  rw [← hW0] at q0 q1 q2 q3 q4 B0 kR
  clear b1 hW0
  rw [lt.out] at ha1
  have ha1' : a < (ntV : Int) := ha1
  obtain ⟨na, rfl⟩ := Int.eq_ofNat_of_zero_le ha0
  obtain ⟨a2, c2, g1w, r2w⟩ := hthr na (by have := lt.out; omega)
  have hmc := hcw na (by have := lt.out; omega) _ _ _ g1w
  have hml := Z6.out na
  obtain ⟨m, hm⟩ : ∃ m, m = (p.threads.getD na []).length := ⟨_, rfl⟩
  rw [← hm] at g1w hmc hml
  have HM := Lib.hid hm
  have HR2 := Lib.hid r2w
  have G1W := Lib.hid g1w
  have HA := Lib.hid ha
  have i0 : (0 : Int) ≤ (na : Int) := by omega
  have i1 : (na : Int) < (ntV : Int) := by omega
  clear hthr hcw hm ha r2w g1w
  by_cases hx0 : x < 0
  · have HN : Hid (dropOp p na x = none) := Lib.hid (by unfold dropOp; rw [change_of HA.out]; unfold dropRes; rw [if_neg (by omega)])
    have t0 : decide (x < 0) = true := decide_eq_true hx0
    clear hx0
    go_enter Try.func28, Try.ntmps28
    go_wp2_with fail
    rw [← HW0.out]
    refine (l11Thread_any _ p na _ (hr.below B0) HZ.out).mono ?_
    rintro e w1 ⟨rfl, hb⟩
    rw [HA.out]
    have kR' := kR.below hb
    clear kR
    have kR := kR'
    clear kR'
    replace q0 := keepc hb q0
    replace q1 := keepc hb q1
    replace q2 := keepc hb q2
    replace q3 := keepc hb q3
    replace q4 := keepc hb q4
    replace B0 := B0.trans (hb.mono B0.size)
    clear hb
    have g1 := keepc B0 G1W.out
    have y0 := kR.cell 0 rfl
    have x0 := kR.fz 0
    have y1 := kR.cell 1 rfl
    have x1 := kR.fz 1
    have y2 := kR.cell 2 rfl
    have x2 := kR.fz 2
    have y3 := kR.cell 3 rfl
    have x3 := kR.fz 3
    have y4 := kR.cell 4 rfl
    have x4 := kR.fz 4
    go_wp2
    refine bodyPost_ret (v := .tuple #[.agg #[.slice none 0 0, .slice none 0 0, .slice none 0 0, .slice none 0 0, .slice none 0 0], .bool false]) (by simp [results, Try.results28, go_sem, y0, y1, y2, y3, y4]) rfl ⟨nilPV, by rw [HN.out]; rfl, by rw [HN.out]; exact (own_nil _).rd, ?_⟩
    exact ((((B0.setCell (Nat.le_add_right _ _) _).setCell (Nat.le_add_right _ _) _).setCell (Nat.le_add_right _ _) _).setCell (Nat.le_add_right _ _) _).setCell (Nat.le_add_right _ _) _
  have t0 : decide (x < 0) = false := decide_eq_false hx0
  by_cases hx1 : (m : Int) ≤ x
  · have HN : Hid (dropOp p na x = none) := Lib.hid (by unfold dropOp; rw [change_of HA.out]; unfold dropRes; rw [if_neg (by rw [Int.toNat_natCast, ← HM.out]; omega)])
    have t1 : decide ((m : Int) ≤ x) = true := decide_eq_true hx1
    clear hx1
    go_enter Try.func28, Try.ntmps28
    go_wp2_with fail
    rw [← HW0.out]
    refine (l11Thread_any _ p na _ (hr.below B0) HZ.out).mono ?_
    rintro e w1 ⟨rfl, hb⟩
    rw [HA.out]
    have kR' := kR.below hb
    clear kR
    have kR := kR'
    clear kR'
    replace q0 := keepc hb q0
    replace q1 := keepc hb q1
    replace q2 := keepc hb q2
    replace q3 := keepc hb q3
    replace q4 := keepc hb q4
    replace B0 := B0.trans (hb.mono B0.size)
    clear hb
    have g1 := keepc B0 G1W.out
    have y0 := kR.cell 0 rfl
    have x0 := kR.fz 0
    have y1 := kR.cell 1 rfl
    have x1 := kR.fz 1
    have y2 := kR.cell 2 rfl
    have x2 := kR.fz 2
    have y3 := kR.cell 3 rfl
    have x3 := kR.fz 3
    have y4 := kR.cell 4 rfl
    have x4 := kR.fz 4
    go_wp2
    refine bodyPost_ret (v := .tuple #[.agg #[.slice none 0 0, .slice none 0 0, .slice none 0 0, .slice none 0 0, .slice none 0 0], .bool false]) (by simp [results, Try.results28, go_sem, y0, y1, y2, y3, y4]) rfl ⟨nilPV, by rw [HN.out]; rfl, by rw [HN.out]; exact (own_nil _).rd, ?_⟩
    exact ((((B0.setCell (Nat.le_add_right _ _) _).setCell (Nat.le_add_right _ _) _).setCell (Nat.le_add_right _ _) _).setCell (Nat.le_add_right _ _) _).setCell (Nat.le_add_right _ _) _
  have t1 : decide ((m : Int) ≤ x) = false := decide_eq_false hx1
  have HN : Hid (dropOp p na x = some (p.thr (p.threads.set na ((p.threads.getD na []).eraseIdx x.toNat)))) := Lib.hid (by unfold dropOp; rw [change_of HA.out]; unfold dropRes; rw [Int.toNat_natCast, if_pos (by rw [← HM.out]; omega)])
  obtain ⟨i, rfl⟩ := Int.eq_ofNat_of_zero_le (show 0 ≤ x by omega)
  have hi : i < m := by omega
  clear hx0 hx1
  go_enter Try.func28, Try.ntmps28
  go_wp2_with fail
  rw [← HW0.out]
  refine (l11Thread_any _ p na _ (hr.below B0) HZ.out).mono ?_
  rintro e w1 ⟨rfl, hb⟩
  rw [HA.out]
  have kR' := kR.below hb
  clear kR
  have kR := kR'
  clear kR'
  replace q0 := keepc hb q0
  replace q1 := keepc hb q1
  replace q2 := keepc hb q2
  replace q3 := keepc hb q3
  replace q4 := keepc hb q4
  replace B0 := B0.trans (hb.mono B0.size)
  clear hb
  have g1 := keepc B0 G1W.out
  go_wp2_with fail
  refine (l6Copy_any _ p _ (hr.below B0) HZ.out).mono ?_
  rintro e w2 ⟨u, us, rfl, ou, hnd, hfr, four, hb⟩
  have hs0 := B0.size
  have hsr := kR.lt
  obtain ⟨T, eT, hT1, hT2⟩ := owns_at ou.ot.out (by have h1 := ou.ot.len; simp only [Pg.cells, List.length_map] at h1; have := lt.out; omega)
  have hTf := hfr T (by unfold fpP fpT; rw [eT]; simp [rowOf])
  obtain ⟨sU, nsU, csU, gU, ngU, cgU, bU, nbU, cbU, rU, nrU, crU, tU, ntU, ctU⟩ := u
  dsimp only at eT ou hfr hnd four ⊢
  subst eT
  have kR' := kR.below hb
  clear kR
  have kR := kR'
  clear kR'
  replace q0 := keepc hb q0
  replace q1 := keepc hb q1
  replace q2 := keepc hb q2
  replace q3 := keepc hb q3
  replace q4 := keepc hb q4
  replace B0 := B0.trans (hb.mono B0.size)
  have hs2 := kR.lt
  have hs1 := hb.size
  have bq : Below w2.heap.size w2 (w2.alloc (.cells #[.slice sU nsU csU, .slice gU ngU cgU, .slice bU nbU cbU, .slice rU nrU crU, .slice (some ⟨T, 0, none⟩) ntU ctU] 26)) := (Below.refl _ _).alloc (Nat.le_refl _) _
  have kQ : Blk (w2.alloc (.cells #[.slice sU nsU csU, .slice gU ngU cgU, .slice bU nbU cbU, .slice rU nrU crU, .slice (some ⟨T, 0, none⟩) ntU ctU] 26)) w2.heap.size #[.slice sU nsU csU, .slice gU ngU cgU, .slice bU nbU cbU, .slice rU nrU crU, .slice (some ⟨T, 0, none⟩) ntU ctU] 26 := Blk.new _ _ _
  have hO := ou.below bq
  have kR' := kR.below bq
  clear kR
  have kR := kR'
  clear kR'
  replace q0 := keepc bq q0
  replace q1 := keepc bq q1
  replace q2 := keepc bq q2
  replace q3 := keepc bq q3
  replace q4 := keepc bq q4
  replace B0 := B0.trans (bq.mono B0.size)
  clear bq ou hb
  go_wp2
  replace g1 := keepc B0 G1W.out
  have hs1A : w1.heap.size ≤ (w2.alloc (.cells #[.slice sU nsU csU, .slice gU ngU cgU, .slice bU nbU cbU, .slice rU nrU crU, .slice (some ⟨T, 0, none⟩) ntU ctU] 26)).heap.size := by have := hs1; simp; omega
  generalize (w2.alloc (.cells #[.slice sU nsU csU, .slice gU ngU cgU, .slice bU nbU cbU, .slice rU nrU crU, .slice (some ⟨T, 0, none⟩) ntU ctU] 26)) = WA at *
  generalize w2.heap.size = BQ at *
  have e4 := kQ.cell 4 rfl
  have hnt : p.threads.length = ntU := by have := hO.ot.len; simpa [Pg.cells] using this
  have hnn : ntV = ntU := by have := lt.out; omega
  have hot := hO.ot.out
  dsimp only at hot
  have rWA : Rd WA a2 (opsV (p.threads.getD na [])) := HR2.out.keep (fun b o e hlt => B0.block b hlt)
  obtain ⟨LL, hL⟩ : ∃ LL, LL = opsV (p.threads.getD na []) := ⟨_, rfl⟩
  have one : ∀ u ∈ LL, u.oneCell' = true := by rw [hL]; exact opsV_one _
  have hll : LL.length = m * 3 := by rw [hL, opsV_len, ← HM.out]
  rw [← hL] at rWA
  obtain ⟨b2, o2, rfl, -⟩ := rWA.at (by omega)
  have nb : i ≤ 1048576 := by omega
  have j0 : (0 : Int) ≤ (i : Int) := by omega
  have j1 : (i : Int) ≤ (c2 : Int) := by omega
  have j2 : (i : Int) + 1 ≤ (m : Int) := by omega
  have j3 : (i : Int) + 1 ≤ (c2 : Int) := by omega
  have j4 : (m : Int) ≤ (c2 : Int) := by omega
  have j5 : (0 : Int) ≤ (i : Int) + 1 := by omega
  have i2 : (na : Int) < (ntU : Int) := by omega
  have hwr : IntKind.i64.wrap ((i : Int) + 1) = (i : Int) + 1 := Go.IntWalk.i64_in _ (by omega)
  obtain ⟨A, hA⟩ : ∃ A : Addr, (if c2 = i + 1 then (⟨b2, o2, none⟩ : Addr) else ⟨b2, o2 + (i + 1) * 3, none⟩) = A := ⟨_, rfl⟩
  have HRA := Lib.hid rWA
  have HRT : Hid (Rd WA (some ⟨b2, o2, none⟩) (LL.take (i * 3))) := Lib.hid (rWA.take (i * 3))
  have HLT : Hid ((LL.take (i * 3)).length = i * 3) := Lib.hid (by rw [List.length_take]; omega)
  have one1 : ∀ x ∈ LL.take (i * 3), x.oneCell' = true := fun x hx => one x (List.mem_of_mem_take hx)
  have oneD : ∀ x ∈ LL.drop ((i + 1) * 3), x.oneCell' = true := fun x hx => one x (List.mem_of_mem_drop hx)
  have HLD : Hid ((LL.drop ((i + 1) * 3)).length = (m - (i + 1)) * 3) := Lib.hid (by rw [List.length_drop, hll]; omega)
  have HRS : Hid (Rd WA (some A) (LL.drop ((i + 1) * 3))) := Lib.hid (by
    by_cases hce : c2 = i + 1
    · exact .inl (List.drop_eq_nil_of_le (by rw [hll]; omega))
    · rw [if_neg hce] at hA
      rcases rWA with h | ⟨b, o, e, hc⟩
      · exact .inl (by rw [h]; simp)
      · simp only [Option.some.injEq, Addr.mk.injEq, and_true] at e
        obtain ⟨rfl, rfl⟩ := e
        exact .inr ⟨b2, o2 + (i + 1) * 3, by rw [← hA], fun j hj => by
          rw [List.length_drop] at hj
          rw [Nat.add_assoc, hc _ (by omega)]
          simp [List.getD]⟩)
  have HLL := Lib.hid hll
  have HOT := Lib.hid hot
  have HVL := Lib.hid hO.ot.vlen
  have HNT := Lib.hid hnt
  have HNN := Lib.hid hnn
  have HLE := Lib.hid hL
  have HO := Lib.hid hO
  have HND := Lib.hid hnd
  have HKQ := Lib.hid kQ
  have HKR := Lib.hid kR
  clear hot hnt hO one kQ kR rWA hll hnn hL hnd
  refine wp_region_steps 21 (by kernel_rfl) (by kernel_rfl) [fun dz uz wz => uz = .pointer (some ⟨BQ, 4, none⟩), fun dz uz wz => uz = .slice (some ⟨T, 0, none⟩) ntU ctU, fun dz uz wz => uz = .int .i64 na, fun dz uz wz => ∃ gz : Nat, uz = .slice (some ⟨gz, 0, none⟩) 0 0 ∧ wz.ownsRow WA.heap.size 44 3 (.slice (some ⟨gz, 0, none⟩) 0 0) 0 [], fun dz uz wz => uz = .pointer (some ⟨w.heap.size, 4, none⟩), fun dz uz wz => uz = .slice (some ⟨bt, ox, none⟩) ntV ctV, fun dz uz wz => uz = .int .i64 na, fun dz uz wz => uz = .pointer (some ⟨bt, ox + na, none⟩), fun dz uz wz => uz = .slice (some ⟨b2, o2, none⟩) m c2, fun dz uz wz => uz = .int .i64 i, fun dz uz wz => uz = .slice (some ⟨b2, o2, none⟩) i c2, fun dz uz wz => ∃ (az : Option Addr) (cz : Nat), uz = .slice az i cz ∧ wz.ownsRow WA.heap.size 44 3 (.slice az i cz) i (LL.take (i * 3)) ∧ (i = 0 → cz = 0), fun dz uz wz => uz = .pointer (some ⟨w.heap.size, 4, none⟩), fun dz uz wz => uz = .slice (some ⟨bt, ox, none⟩) ntV ctV, fun dz uz wz => uz = .int .i64 na, fun dz uz wz => uz = .pointer (some ⟨bt, ox + na, none⟩), fun dz uz wz => uz = .slice (some ⟨b2, o2, none⟩) m c2, fun dz uz wz => uz = .int .i64 i, fun dz uz wz => uz = .int .i64 ((i : Int) + 1), fun dz uz wz => uz = .slice (some A) (m - (i + 1)) (c2 - (i + 1)), fun dz uz wz => ∃ (az : Option Addr) (cz : Nat), uz = .slice az (i + (m - (i + 1))) cz ∧ wz.ownsRow WA.heap.size 44 3 (.slice az (i + (m - (i + 1))) cz) (i + (m - (i + 1))) (LL.take (i * 3) ++ LL.drop ((i + 1) * 3))] (St1 20 (fun wa wb => Below WA.heap.size wa wb ∧ KeepsRows 44 3 i wa wb)) (fun _ _ => none) (fun _ w' => Below WA.heap.size WA w') (fun _ _ => (Below.refl _ _).drew) (st1_size (fun _ _ h => h.1.size)) (stab1_of ⟨fun _ _ _ _ _ h => h, fun _ _ _ _ _ h => h, fun _ _ _ _ _ h => h, fun _ _ _ _ hb ⟨g, e, h⟩ => ⟨g, e, owns_below h hb⟩, fun _ _ _ _ _ h => h, fun _ _ _ _ _ h => h, fun _ _ _ _ _ h => h, fun _ _ _ _ _ h => h, fun _ _ _ _ _ h => h, fun _ _ _ _ _ h => h, fun _ _ _ _ _ h => h, fun _ _ _ _ hb ⟨a, c, e, h, h0⟩ => ⟨a, c, e, owns_below h hb, h0⟩, fun _ _ _ _ _ h => h, fun _ _ _ _ _ h => h, fun _ _ _ _ _ h => h, fun _ _ _ _ _ h => h, fun _ _ _ _ _ h => h, fun _ _ _ _ _ h => h, fun _ _ _ _ _ h => h, fun _ _ _ _ _ h => h, fun _ _ _ _ hb ⟨a, c, e, h⟩ => ⟨a, c, e, owns_below h hb⟩, trivial⟩ ⟨.inr (fun _ _ _ _ _ h => h), .inr (fun _ _ _ _ _ h => h), .inr (fun _ _ _ _ _ h => h), .inr (fun _ _ _ _ hT ⟨g, e, h⟩ => ⟨g, e, hT.2 _ _ _ _ _ (Nat.zero_le _) h⟩), .inr (fun _ _ _ _ _ h => h), .inr (fun _ _ _ _ _ h => h), .inr (fun _ _ _ _ _ h => h), .inr (fun _ _ _ _ _ h => h), .inr (fun _ _ _ _ _ h => h), .inr (fun _ _ _ _ _ h => h), .inr (fun _ _ _ _ _ h => h), .inr (fun _ _ _ _ hT ⟨a, c, e, h, h0⟩ => ⟨a, c, e, hT.2 _ _ _ _ _ (by omega) h, h0⟩), .inr (fun _ _ _ _ _ h => h), .inr (fun _ _ _ _ _ h => h), .inr (fun _ _ _ _ _ h => h), .inr (fun _ _ _ _ _ h => h), .inr (fun _ _ _ _ _ h => h), .inr (fun _ _ _ _ _ h => h), .inr (fun _ _ _ _ _ h => h), .inr (fun _ _ _ _ _ h => h), .inl rfl, trivial⟩) ?_ ?_
  · simp only [List.take_succ_cons, List.take_zero]
    refine ⟨?_, ?_, ?_, ?_, ?_, ?_, ?_, ?_, ?_, ?_, ?_, ?_, ?_, ?_, ?_, ?_, ?_, ?_, ?_, ?_, ?_, trivial⟩
    · intro ρ w1 L hG hny hfr hd
      have fc : ∀ z, ρ (.const z) = z := fun _ => hfr _ rfl
      have ff : ∀ z, ρ (.func z) = .func (.func z) #[] #[] := fun _ => hfr _ rfl
      have f8 : ρ (.tmp 8) = .pointer (some ⟨BQ, 0, none⟩) := hfr _ rfl
      refine gives_val (u := .pointer (some ⟨BQ, 4, none⟩)) (w' := w1) (by go_simp) ⟨st1_below (by decide) (Below.refl _ _), rfl, (fun _ hk => by cases hk), hG⟩
    · intro ρ w1 L hG hny hfr hd
      have fc : ∀ z, ρ (.const z) = z := fun _ => hfr _ rfl
      have ff : ∀ z, ρ (.func z) = .func (.func z) #[] #[] := fun _ => hfr _ rfl
      obtain ⟨d0, -⟩ := hd
      have d0 : (ρ (.tmp 30)) = .pointer (some ⟨BQ, 4, none⟩) := d0
      have e4 := keepc hG e4
      refine gives_val (u := .slice (some ⟨T, 0, none⟩) ntU ctU) (w' := w1) (by go_simp) ⟨st1_below (by decide) (Below.refl _ _), rfl, (fun _ hk => by cases hk), hG⟩
    · intro ρ w1 L hG hny hfr hd
      have fc : ∀ z, ρ (.const z) = z := fun _ => hfr _ rfl
      have ff : ∀ z, ρ (.func z) = .func (.func z) #[] #[] := fun _ => hfr _ rfl
      have f1 : ρ (.tmp 1) = .int .i64 na := hfr _ rfl
      refine gives_val (u := .int .i64 na) (w' := w1) (by go_simp) ⟨st1_below (by decide) (Below.refl _ _), rfl, (fun _ hk => by cases hk), hG⟩
    · intro ρ w1 L hG hny hfr hd
      have fc : ∀ z, ρ (.const z) = z := fun _ => hfr _ rfl
      have ff : ∀ z, ρ (.func z) = .func (.func z) #[] #[] := fun _ => hfr _ rfl
      refine gives_val (u := .slice (some ⟨w1.heap.size, 0, none⟩) 0 0) (w' := w1.alloc (.cells #[] 44)) (by go_simp) ⟨st1_below (by decide) ((Below.refl _ _).alloc (Nat.le_refl _) _), ⟨_, rfl, owns_mono (owns_empty w1 44 3) hG.size⟩, (fun _ hk => by cases hk), hG.alloc hG.size _⟩
    · intro ρ w1 L hG hny hfr hd
      have fc : ∀ z, ρ (.const z) = z := fun _ => hfr _ rfl
      have ff : ∀ z, ρ (.func z) = .func (.func z) #[] #[] := fun _ => hfr _ rfl
      have f3 : ρ (.tmp 3) = .pointer (some ⟨w.heap.size, 0, none⟩) := hfr _ rfl
      refine gives_val (u := .pointer (some ⟨w.heap.size, 4, none⟩)) (w' := w1) (by go_simp) ⟨st1_below (by decide) (Below.refl _ _), rfl, (fun _ hk => by cases hk), hG⟩
    · intro ρ w1 L hG hny hfr hd
      have fc : ∀ z, ρ (.const z) = z := fun _ => hfr _ rfl
      have ff : ∀ z, ρ (.func z) = .func (.func z) #[] #[] := fun _ => hfr _ rfl
      obtain ⟨d0, -⟩ := hd
      have d0 : (ρ (.tmp 34)) = .pointer (some ⟨w.heap.size, 4, none⟩) := d0
      have q4 := keepc hG q4
      refine gives_val (u := .slice (some ⟨bt, ox, none⟩) ntV ctV) (w' := w1) (by go_simp) ⟨st1_below (by decide) (Below.refl _ _), rfl, (fun _ hk => by cases hk), hG⟩
    · intro ρ w1 L hG hny hfr hd
      have fc : ∀ z, ρ (.const z) = z := fun _ => hfr _ rfl
      have ff : ∀ z, ρ (.func z) = .func (.func z) #[] #[] := fun _ => hfr _ rfl
      have f1 : ρ (.tmp 1) = .int .i64 na := hfr _ rfl
      refine gives_val (u := .int .i64 na) (w' := w1) (by go_simp) ⟨st1_below (by decide) (Below.refl _ _), rfl, (fun _ hk => by cases hk), hG⟩
    · intro ρ w1 L hG hny hfr hd
      have fc : ∀ z, ρ (.const z) = z := fun _ => hfr _ rfl
      have ff : ∀ z, ρ (.func z) = .func (.func z) #[] #[] := fun _ => hfr _ rfl
      obtain ⟨d0, d1, -⟩ := hd
      have d0 : (ρ (.tmp 35)) = .slice (some ⟨bt, ox, none⟩) ntV ctV := d0
      have d1 : (ρ (.tmp 36)) = .int .i64 na := d1
      refine gives_val (u := .pointer (some ⟨bt, ox + na, none⟩)) (w' := w1) (by go_simp) ⟨st1_below (by decide) (Below.refl _ _), rfl, (fun _ hk => by cases hk), hG⟩
    · intro ρ w1 L hG hny hfr hd
      have fc : ∀ z, ρ (.const z) = z := fun _ => hfr _ rfl
      have ff : ∀ z, ρ (.func z) = .func (.func z) #[] #[] := fun _ => hfr _ rfl
      obtain ⟨d0, -⟩ := hd
      have d0 : (ρ (.tmp 37)) = .pointer (some ⟨bt, ox + na, none⟩) := d0
      have g1 := keepc hG g1
      refine gives_val (u := .slice (some ⟨b2, o2, none⟩) m c2) (w' := w1) (by go_simp) ⟨st1_below (by decide) (Below.refl _ _), rfl, (fun _ hk => by cases hk), hG⟩
    · intro ρ w1 L hG hny hfr hd
      have fc : ∀ z, ρ (.const z) = z := fun _ => hfr _ rfl
      have ff : ∀ z, ρ (.func z) = .func (.func z) #[] #[] := fun _ => hfr _ rfl
      have f2 : ρ (.tmp 2) = .int .i64 i := hfr _ rfl
      refine gives_val (u := .int .i64 i) (w' := w1) (by go_simp) ⟨st1_below (by decide) (Below.refl _ _), rfl, (fun _ hk => by cases hk), hG⟩
    · intro ρ w1 L hG hny hfr hd
      have fc : ∀ z, ρ (.const z) = z := fun _ => hfr _ rfl
      have ff : ∀ z, ρ (.func z) = .func (.func z) #[] #[] := fun _ => hfr _ rfl
      obtain ⟨d0, d1, -⟩ := hd
      have d0 : (ρ (.tmp 38)) = .slice (some ⟨b2, o2, none⟩) m c2 := d0
      have d1 : (ρ (.tmp 39)) = .int .i64 i := d1
      refine gives_val (u := .slice (some ⟨b2, o2, none⟩) i c2) (w' := w1) (by go_simp) ⟨st1_below (by decide) (Below.refl _ _), rfl, (fun _ hk => by cases hk), hG⟩
    · intro ρ w1 L hG hny hfr hd
      have fc : ∀ z, ρ (.const z) = z := fun _ => hfr _ rfl
      have ff : ∀ z, ρ (.func z) = .func (.func z) #[] #[] := fun _ => hfr _ rfl
      obtain ⟨d0, d1, -⟩ := hd
      have d0 : ∃ gz : Nat, (ρ (.tmp 33)) = .slice (some ⟨gz, 0, none⟩) 0 0 ∧ w1.ownsRow WA.heap.size 44 3 (.slice (some ⟨gz, 0, none⟩) 0 0) 0 [] := d0
      have d1 : (ρ (.tmp 40)) = .slice (some ⟨b2, o2, none⟩) i c2 := d1
      obtain ⟨g, d0, hg⟩ := d0
      refine gives_append_new _ _ 34 rfl Try.underlying34 info_op rfl (by decide) d0 hg d1 HLT.out (HRT.out.below hG) one1 (by omega) (by decide) hG.size ?_
      intro a c w2 hown hb hf h0
      exact ⟨st1_below (by decide) (hb), ⟨a, c, rfl, hown, h0⟩, (fun _ hk => by cases hk), hG.trans (hb.mono hG.size)⟩
    · intro ρ w1 L hG hny hfr hd
      have fc : ∀ z, ρ (.const z) = z := fun _ => hfr _ rfl
      have ff : ∀ z, ρ (.func z) = .func (.func z) #[] #[] := fun _ => hfr _ rfl
      have f3 : ρ (.tmp 3) = .pointer (some ⟨w.heap.size, 0, none⟩) := hfr _ rfl
      refine gives_val (u := .pointer (some ⟨w.heap.size, 4, none⟩)) (w' := w1) (by go_simp) ⟨st1_below (by decide) (Below.refl _ _), rfl, (fun _ hk => by cases hk), hG⟩
    · intro ρ w1 L hG hny hfr hd
      have fc : ∀ z, ρ (.const z) = z := fun _ => hfr _ rfl
      have ff : ∀ z, ρ (.func z) = .func (.func z) #[] #[] := fun _ => hfr _ rfl
      obtain ⟨d0, -⟩ := hd
      have d0 : (ρ (.tmp 42)) = .pointer (some ⟨w.heap.size, 4, none⟩) := d0
      have q4 := keepc hG q4
      refine gives_val (u := .slice (some ⟨bt, ox, none⟩) ntV ctV) (w' := w1) (by go_simp) ⟨st1_below (by decide) (Below.refl _ _), rfl, (fun _ hk => by cases hk), hG⟩
    · intro ρ w1 L hG hny hfr hd
      have fc : ∀ z, ρ (.const z) = z := fun _ => hfr _ rfl
      have ff : ∀ z, ρ (.func z) = .func (.func z) #[] #[] := fun _ => hfr _ rfl
      have f1 : ρ (.tmp 1) = .int .i64 na := hfr _ rfl
      refine gives_val (u := .int .i64 na) (w' := w1) (by go_simp) ⟨st1_below (by decide) (Below.refl _ _), rfl, (fun _ hk => by cases hk), hG⟩
    · intro ρ w1 L hG hny hfr hd
      have fc : ∀ z, ρ (.const z) = z := fun _ => hfr _ rfl
      have ff : ∀ z, ρ (.func z) = .func (.func z) #[] #[] := fun _ => hfr _ rfl
      obtain ⟨d0, d1, -⟩ := hd
      have d0 : (ρ (.tmp 43)) = .slice (some ⟨bt, ox, none⟩) ntV ctV := d0
      have d1 : (ρ (.tmp 44)) = .int .i64 na := d1
      refine gives_val (u := .pointer (some ⟨bt, ox + na, none⟩)) (w' := w1) (by go_simp) ⟨st1_below (by decide) (Below.refl _ _), rfl, (fun _ hk => by cases hk), hG⟩
    · intro ρ w1 L hG hny hfr hd
      have fc : ∀ z, ρ (.const z) = z := fun _ => hfr _ rfl
      have ff : ∀ z, ρ (.func z) = .func (.func z) #[] #[] := fun _ => hfr _ rfl
      obtain ⟨d0, -⟩ := hd
      have d0 : (ρ (.tmp 45)) = .pointer (some ⟨bt, ox + na, none⟩) := d0
      have g1 := keepc hG g1
      refine gives_val (u := .slice (some ⟨b2, o2, none⟩) m c2) (w' := w1) (by go_simp) ⟨st1_below (by decide) (Below.refl _ _), rfl, (fun _ hk => by cases hk), hG⟩
    · intro ρ w1 L hG hny hfr hd
      have fc : ∀ z, ρ (.const z) = z := fun _ => hfr _ rfl
      have ff : ∀ z, ρ (.func z) = .func (.func z) #[] #[] := fun _ => hfr _ rfl
      have f2 : ρ (.tmp 2) = .int .i64 i := hfr _ rfl
      refine gives_val (u := .int .i64 i) (w' := w1) (by go_simp) ⟨st1_below (by decide) (Below.refl _ _), rfl, (fun _ hk => by cases hk), hG⟩
    · intro ρ w1 L hG hny hfr hd
      have fc : ∀ z, ρ (.const z) = z := fun _ => hfr _ rfl
      have ff : ∀ z, ρ (.func z) = .func (.func z) #[] #[] := fun _ => hfr _ rfl
      obtain ⟨d0, -⟩ := hd
      have d0 : (ρ (.tmp 47)) = .int .i64 i := d0
      refine gives_val (u := .int .i64 ((i : Int) + 1)) (w' := w1) (by go_simp) ⟨st1_below (by decide) (Below.refl _ _), rfl, (fun _ hk => by cases hk), hG⟩
    · intro ρ w1 L hG hny hfr hd
      have fc : ∀ z, ρ (.const z) = z := fun _ => hfr _ rfl
      have ff : ∀ z, ρ (.func z) = .func (.func z) #[] #[] := fun _ => hfr _ rfl
      obtain ⟨d0, d1, -⟩ := hd
      have d0 : (ρ (.tmp 46)) = .slice (some ⟨b2, o2, none⟩) m c2 := d0
      have d1 : (ρ (.tmp 48)) = .int .i64 ((i : Int) + 1) := d1
      refine gives_val (u := .slice (some A) (m - (i + 1)) (c2 - (i + 1))) (w' := w1) (by go_simp; rw [← hA]; split <;> rfl) ⟨st1_below (by decide) (Below.refl _ _), rfl, (fun _ hk => by cases hk), hG⟩
    · intro ρ w1 L hG hny hfr hd
      have fc : ∀ z, ρ (.const z) = z := fun _ => hfr _ rfl
      have ff : ∀ z, ρ (.func z) = .func (.func z) #[] #[] := fun _ => hfr _ rfl
      obtain ⟨d0, d1, -⟩ := hd
      have d0 : ∃ (az : Option Addr) (cz : Nat), (ρ (.tmp 41)) = .slice az i cz ∧ w1.ownsRow WA.heap.size 44 3 (.slice az i cz) i (LL.take (i * 3)) ∧ (i = 0 → cz = 0) := d0
      have d1 : (ρ (.tmp 49)) = .slice (some A) (m - (i + 1)) (c2 - (i + 1)) := d1
      obtain ⟨azo, czo, d0, hown, -⟩ := d0
      refine gives_append_keep _ _ 34 rfl Try.underlying34 info_op rfl (by decide) d0 hown d1 HLD.out (HRS.out.below hG) oneD (by omega) (by decide) hG.size ?_
      intro a' c' w2 hown2 hgr hkeep
      have hbB := below_of_grown hgr hG.size (fun q hq => (owns_row hown q hq).1)
      exact ⟨st1_own ⟨hbB, hkeep⟩, ⟨a', c', rfl, hown2⟩, (fun _ hk => by cases hk), hG.trans hbB⟩
  intro vs w2 L hG hlen hall hap hbd
  obtain ⟨xv0, vs0, rfl, hl0⟩ := len_cons hlen
  obtain ⟨xv1, vs1, rfl, hl1⟩ := len_cons hl0
  obtain ⟨xv2, vs2, rfl, hl2⟩ := len_cons hl1
  obtain ⟨xv3, vs3, rfl, hl3⟩ := len_cons hl2
  obtain ⟨xv4, vs4, rfl, hl4⟩ := len_cons hl3
  obtain ⟨xv5, vs5, rfl, hl5⟩ := len_cons hl4
  obtain ⟨xv6, vs6, rfl, hl6⟩ := len_cons hl5
  obtain ⟨xv7, vs7, rfl, hl7⟩ := len_cons hl6
  obtain ⟨xv8, vs8, rfl, hl8⟩ := len_cons hl7
  obtain ⟨xv9, vs9, rfl, hl9⟩ := len_cons hl8
  obtain ⟨xv10, vs10, rfl, hl10⟩ := len_cons hl9
  obtain ⟨xv11, vs11, rfl, hl11⟩ := len_cons hl10
  obtain ⟨xv12, vs12, rfl, hl12⟩ := len_cons hl11
  obtain ⟨xv13, vs13, rfl, hl13⟩ := len_cons hl12
  obtain ⟨xv14, vs14, rfl, hl14⟩ := len_cons hl13
  obtain ⟨xv15, vs15, rfl, hl15⟩ := len_cons hl14
  obtain ⟨xv16, vs16, rfl, hl16⟩ := len_cons hl15
  obtain ⟨xv17, vs17, rfl, hl17⟩ := len_cons hl16
  obtain ⟨xv18, vs18, rfl, hl18⟩ := len_cons hl17
  obtain ⟨xv19, vs19, rfl, hl19⟩ := len_cons hl18
  obtain ⟨xv20, vs20, rfl, hl20⟩ := len_cons hl19
  obtain rfl := len_nil hl20
  clear hlen hl0 hl1 hl2 hl3 hl4 hl5 hl6 hl7 hl8 hl9 hl10 hl11 hl12 hl13 hl14 hl15 hl16 hl17 hl18 hl19 hl20
  simp only [List.take_succ_cons, List.take_zero, List.drop_succ_cons, List.drop_zero] at hall ⊢
  obtain ⟨t0', t1', t2', t3', t4', t5', t6', t7', t8', t9', t10', t11', t12', t13', t14', t15', t16', t17', t18', t19', t20', -⟩ := hall
  have hv0 : xv0 = .pointer (some ⟨BQ, 4, none⟩) := t0'
  have hv1 : xv1 = .slice (some ⟨T, 0, none⟩) ntU ctU := t1'
  have hv2 : xv2 = .int .i64 na := t2'
  have hv3 : ∃ gz : Nat, xv3 = .slice (some ⟨gz, 0, none⟩) 0 0 ∧ w2.ownsRow WA.heap.size 44 3 (.slice (some ⟨gz, 0, none⟩) 0 0) 0 [] := t3'
  have hv4 : xv4 = .pointer (some ⟨w.heap.size, 4, none⟩) := t4'
  have hv5 : xv5 = .slice (some ⟨bt, ox, none⟩) ntV ctV := t5'
  have hv6 : xv6 = .int .i64 na := t6'
  have hv7 : xv7 = .pointer (some ⟨bt, ox + na, none⟩) := t7'
  have hv8 : xv8 = .slice (some ⟨b2, o2, none⟩) m c2 := t8'
  have hv9 : xv9 = .int .i64 i := t9'
  have hv10 : xv10 = .slice (some ⟨b2, o2, none⟩) i c2 := t10'
  have hv11 : ∃ (az : Option Addr) (cz : Nat), xv11 = .slice az i cz ∧ w2.ownsRow WA.heap.size 44 3 (.slice az i cz) i (LL.take (i * 3)) ∧ (i = 0 → cz = 0) := t11'
  have hv12 : xv12 = .pointer (some ⟨w.heap.size, 4, none⟩) := t12'
  have hv13 : xv13 = .slice (some ⟨bt, ox, none⟩) ntV ctV := t13'
  have hv14 : xv14 = .int .i64 na := t14'
  have hv15 : xv15 = .pointer (some ⟨bt, ox + na, none⟩) := t15'
  have hv16 : xv16 = .slice (some ⟨b2, o2, none⟩) m c2 := t16'
  have hv17 : xv17 = .int .i64 i := t17'
  have hv18 : xv18 = .int .i64 ((i : Int) + 1) := t18'
  have hv19 : xv19 = .slice (some A) (m - (i + 1)) (c2 - (i + 1)) := t19'
  have hv20 : ∃ (az : Option Addr) (cz : Nat), xv20 = .slice az (i + (m - (i + 1))) cz ∧ w2.ownsRow WA.heap.size 44 3 (.slice az (i + (m - (i + 1))) cz) (i + (m - (i + 1))) (LL.take (i * 3) ++ LL.drop ((i + 1) * 3)) := t20'
  clear t0' t1' t2' t3' t4' t5' t6' t7' t8' t9' t10' t11' t12' t13' t14' t15' t16' t17' t18' t19' t20'
  clear hap hbd
  subst hv0 hv1 hv2 hv4 hv5 hv6 hv7 hv8 hv9 hv10 hv12 hv13 hv14 hv15 hv16 hv17 hv18 hv19
  simp only [putAll, Act.put, List.setIfInBounds_toArray, List.set_cons_succ, List.set_cons_zero]
  obtain ⟨a4, c4, rfl, hown1⟩ := hv20
  have hot2 := owns_below HOT.out hG
  have kQ2 := HKQ.out.below hG
  have kR2 := HKR.out.below hG
  have hRQ : w.heap.size + 1 ≠ BQ := by omega
  have hRT : w.heap.size + 1 ≠ T := by omega
  have hQT : BQ ≠ T := fun e => blk_owns kQ2 hot2 types_ne.2.2.2.1 (by rw [e]; rfl)
  have hvl := HVL.out
  dsimp only at hvl
  have gT : (w2.cell? ⟨T, na, none⟩) = some (us.getD na undef) := (by rw [hot2.cellAt na (by omega), List.getD_eq_getElem?_getD, List.getElem?_eq_getElem (by omega)]; rfl)
  have fT := hot2.frozenAt na
  have kQ4 := kQ2.other ⟨T, na, none⟩ (.slice a4 (i + (m - (i + 1))) c4) hQT
  have kR4 := kR2.other ⟨T, na, none⟩ (.slice a4 (i + (m - (i + 1))) c4) hRT
  have g0' := kQ4.cell 0 rfl
  have g1' := kQ4.cell 1 rfl
  have g2' := kQ4.cell 2 rfl
  have g3' := kQ4.cell 3 rfl
  have g4' := kQ4.cell 4 rfl
  have y0 := kR4.cell 0 rfl
  have x0 := kR4.fz 0
  have y1 := kR4.cell 1 rfl
  have x1 := kR4.fz 1
  have y2 := kR4.cell 2 rfl
  have x2 := kR4.fz 2
  have y3 := kR4.cell 3 rfl
  have x3 := kR4.fz 3
  have y4 := kR4.cell 4 rfl
  have x4 := kR4.fz 4
  have HB3 := Lib.hid hG
  have H41 := Lib.hid hown1
  clear hot2 kQ2 kR2 kQ4 kR4 hown1 hG hvl
  go_wp2
  have HF := hfr
  refine bodyPost_ret (v := .tuple #[.agg #[.slice sU nsU csU, .slice gU ngU cgU, .slice bU nbU cbU, .slice rU nrU crU, .slice (some ⟨T, 0, none⟩) ntU ctU], .bool true]) (by simp [results, Try.results28, go_sem, y0, y1, y2, y3, y4]) rfl ⟨(PV.mk sU nsU csU gU ngU cgU bU nbU cbU rU nrU crU (some ⟨T, 0, none⟩) ntU ctU), by rw [HN.out]; rfl, ?_, ?_⟩
  · rw [HN.out]
    simp only [Option.getD_some, Int.toNat_natCast]
    have hnew := H41.out
    rw [HLE.out, ← opsV_erase] at hnew
    have hfin := ownP_row HO.out HND.out rfl (show na < ntU by omega) (show us.getD na undef = .slice _ _ _ from (HO.out.row (i := na) (show na < ntU by omega)).choose_spec.choose_spec.1) (grown_below HB3.out) (owns_mono hnew (Nat.zero_le _))
    have hF2 : ∀ k ∈ fpP (PV.mk sU nsU csU gU ngU cgU bU nbU cbU rU nrU crU (some ⟨T, 0, none⟩) ntU ctU) (us.set na (.slice a4 (i + (m - (i + 1))) c4)), w1.heap.size ≤ k := fp_thr HF (fun k hk => by simp [rowOf] at hk; omega) (fun y hy k hk => by
      rcases List.mem_or_eq_of_mem_set hy with hy | rfl
      · exact HF k (mem_fp_row hy hk)
      · rw [ownBlock_slice] at hk
        have := (owns_row H41.out k hk).1; omega)
    refine rd_after (R := w.heap.size + 1) hfin ?_ hsr hF2
    exact Touch.set (Touch.set (Touch.set (Touch.set (Touch.set (Touch.refl _ _) (by simp)) (by simp)) (by simp)) (by simp)) (by simp)
  · have BE := (B0.trans (HB3.out.mono B0.size)).setCell (show w.heap.size ≤ (⟨T, na, none⟩ : Addr).block from (by omega : w.heap.size ≤ T)) (.slice a4 (i + (m - (i + 1))) c4)
    exact ((((BE.setCell (Nat.le_add_right _ _) _).setCell (Nat.le_add_right _ _) _).setCell (Nat.le_add_right _ _) _).setCell (Nat.le_add_right _ _) _).setCell (Nat.le_add_right _ _) _

end Go.Proofs.Ytnobkdkfhgjeeab
