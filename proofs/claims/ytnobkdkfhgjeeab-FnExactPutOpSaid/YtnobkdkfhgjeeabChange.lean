/- A program that is changed by a function: the program's own text. -/
import Derived.Test.YtnobkdkfhgjeeabClone
import Derived.Test.YtnobkdkfhgjeeabCopy
import Derived.Test.YtnobkdkfhgjeeabTallies
namespace Go.Proofs.Ytnobkdkfhgjeeab
open Go.RowKit

def noPg : Pg := ⟨[], [], [], [], []⟩
/-- Data that are not too long. -/
structure SmallP (p : Pg) : Prop where
  ls : p.sems.length ≤ 1048576
  lg : p.groups.length ≤ 1048576
  lb : p.barriers.length ≤ 1048576
  lr : p.rooms.length ≤ 1048576
  lt : p.threads.length ≤ 1048576
  inn : ∀ i, (p.threads.getD i []).length ≤ 1048576
theorem SmallP.at {v : PV} {p : Pg} {w : World} (h : SmallP p) (hr : RdP w v p) : Small v p :=
  ⟨by rw [← hr.ls]; exact h.ls, by rw [← hr.lg]; exact h.lg, by rw [← hr.lb]; exact h.lb, by rw [← hr.lr]; exact h.lr, by rw [← hr.lt]; exact h.lt, h.inn⟩
theorem Small.data {v : PV} {p : Pg} {w : World} (h : Small v p) (hr : RdP w v p) : SmallP p :=
  ⟨by rw [hr.ls]; exact h.ls, by rw [hr.lg]; exact h.lg, by rw [hr.lb]; exact h.lb, by rw [hr.lr]; exact h.lr, by rw [hr.lt]; exact h.lt, h.inn⟩
def nilPV : PV := ⟨none, 0, 0, none, 0, 0, none, 0, 0, none, 0, 0, none, 0, 0⟩
theorem own_nil (w : World) : OwnP w nilPV [] noPg.cells :=
  ⟨World.ownsRow_nil _ _ _ _, World.ownsRow_nil _ _ _ _, World.ownsRow_nil _ _ _ _, World.ownsRow_nil _ _ _ _, ⟨World.ownsRow_nil _ _ _ _, rfl, by intro i hi; simp [nilPV] at hi⟩⟩
theorem fp_nil : fpP nilPV [] = [] := rfl
/-- A change is made of a valid program that has the thread. -/
def changeP (p : Pg) (thread : Int) (res : Option Pg) : Option Pg := if progValid p = true ∧ 0 ≤ thread ∧ thread < p.threads.length then res else none

/-- What the function that changes a copy does: it writes the copy alone, which lies in block Bq, and says whether it did. -/
def Changes (H : World) (f : Nat) (caps : Array Value) (p : Pg) (res : Option Pg) : Prop :=
  ∀ (u : PV) (us : List Value) (W : World) (Bq : Nat), Below H.heap.size H W → H.heap.size ≤ Bq → OwnP W u us p.cells → (fpP u us).Nodup → (∀ k ∈ fpP u us, H.heap.size ≤ k) → Blk W Bq #[.slice u.s u.ns u.cs, .slice u.g u.ng u.cg, .slice u.b u.nb u.cb, .slice u.r u.nr u.cr, .slice u.t u.nt u.ct] 26 →
    Calls Try.prog f (#[.pointer (some ⟨Bq, 0, none⟩)] ++ caps) W fun e w' => e = .returned (.bool res.isSome) ∧ Below H.heap.size H w' ∧
      ∀ p', res = some p' → ∃ u' : PV, Blk w' Bq #[.slice u'.s u'.ns u'.cs, .slice u'.g u'.ng u'.cg, .slice u'.b u'.nb u'.cb, .slice u'.r u'.nr u'.cr, .slice u'.t u'.nt u'.ct] 26 ∧ RdP w' u' p'

set_option maxRecDepth 100000 in
set_option maxHeartbeats 4000000 in
theorem change_any (f : Nat) (caps : Array Value) (v : PV) (p : Pg) (thread : Int) (res : Option Pg) (w : World) (eg : ∀ args w, (callFunc f args).run Try.prog w = .ok (.enter f args) w) (hr : RdP w v p) (hz : Small v p)
    (hf : progValid p = true → 0 ≤ thread → thread < p.threads.length → ∀ H, Below w.heap.size w H → Changes H f caps p res) (hres : progValid p = true → 0 ≤ thread → thread < p.threads.length → ∀ p', res = some p' → SmallP p' ∧ 0 < p'.threads.length) :
    Calls Try.prog 38 #[.agg #[.slice v.s v.ns v.cs, .slice v.g v.ng v.cg, .slice v.b v.nb v.cb, .slice v.r v.nr v.cr, .slice v.t v.nt v.ct], .int .i64 thread, .func (.func f) #[] caps] w fun e w' => ∃ (u : PV) (us : List Value), e = .returned (.tuple #[.agg #[.slice u.s u.ns u.cs, .slice u.g u.ng u.cg, .slice u.b u.nb u.cb, .slice u.r u.nr u.cr, .slice u.t u.nt u.ct], .bool (changeP p thread res).isSome]) ∧ OwnP w' u us ((changeP p thread res).getD noPg).cells ∧ (fpP u us).Nodup ∧ (∀ k ∈ fpP u us, w.heap.size ≤ k) ∧ Below w.heap.size w w' := by
  have hs : v.ns ≤ maxLen ∧ v.ng ≤ maxLen ∧ v.nb ≤ maxLen ∧ v.nr ≤ maxLen := by
    obtain ⟨z1, z2, z3, z4, z5, z6⟩ := hz; unfold maxLen; omega
  have zz : Hid (v.ns ≤ maxLen ∧ v.ng ≤ maxLen ∧ v.nb ≤ maxLen ∧ v.nr ≤ maxLen) := Lib.hid hs
  have HZ := Lib.hid hz
  have z5 : v.nt ≤ 1048576 := hz.lt
  have Z6 := Lib.hid hz.inn
  have ls := Lib.hid hr.ls
  have lg := Lib.hid hr.lg
  have lb := Lib.hid hr.lb
  have lr := Lib.hid hr.lr
  have lt := Lib.hid hr.lt
  clear hz
  have B0 : Below w.heap.size w (w.alloc (.cells #[.slice v.s v.ns v.cs, .slice v.g v.ng v.cg, .slice v.b v.nb v.cb, .slice v.r v.nr v.cr, .slice v.t v.nt v.ct] 26)) := (Below.refl _ _).alloc (Nat.le_refl _) _
  have k0 : Blk (w.alloc (.cells #[.slice v.s v.ns v.cs, .slice v.g v.ng v.cg, .slice v.b v.nb v.cb, .slice v.r v.nr v.cr, .slice v.t v.nt v.ct] 26)) w.heap.size #[.slice v.s v.ns v.cs, .slice v.g v.ng v.cg, .slice v.b v.nb v.cb, .slice v.r v.nr v.cr, .slice v.t v.nt v.ct] 26 := Blk.new _ _ _
  have q0 : (w.alloc (.cells #[.slice v.s v.ns v.cs, .slice v.g v.ng v.cg, .slice v.b v.nb v.cb, .slice v.r v.nr v.cr, .slice v.t v.nt v.ct] 26)).cell? ⟨w.heap.size, 0, none⟩ = some (.slice v.s v.ns v.cs) := k0.cell 0 rfl
  have q1 : (w.alloc (.cells #[.slice v.s v.ns v.cs, .slice v.g v.ng v.cg, .slice v.b v.nb v.cb, .slice v.r v.nr v.cr, .slice v.t v.nt v.ct] 26)).cell? ⟨w.heap.size, 1, none⟩ = some (.slice v.g v.ng v.cg) := k0.cell 1 rfl
  have q2 : (w.alloc (.cells #[.slice v.s v.ns v.cs, .slice v.g v.ng v.cg, .slice v.b v.nb v.cb, .slice v.r v.nr v.cr, .slice v.t v.nt v.ct] 26)).cell? ⟨w.heap.size, 2, none⟩ = some (.slice v.b v.nb v.cb) := k0.cell 2 rfl
  have q3 : (w.alloc (.cells #[.slice v.s v.ns v.cs, .slice v.g v.ng v.cg, .slice v.b v.nb v.cb, .slice v.r v.nr v.cr, .slice v.t v.nt v.ct] 26)).cell? ⟨w.heap.size, 3, none⟩ = some (.slice v.r v.nr v.cr) := k0.cell 3 rfl
  have q4 : (w.alloc (.cells #[.slice v.s v.ns v.cs, .slice v.g v.ng v.cg, .slice v.b v.nb v.cb, .slice v.r v.nr v.cr, .slice v.t v.nt v.ct] 26)).cell? ⟨w.heap.size, 4, none⟩ = some (.slice v.t v.nt v.ct) := k0.cell 4 rfl
  clear k0
  obtain ⟨W0, hW0⟩ : ∃ W0 : World, W0 = ((w.alloc (.cells #[.slice v.s v.ns v.cs, .slice v.g v.ng v.cg, .slice v.b v.nb v.cb, .slice v.r v.nr v.cr, .slice v.t v.nt v.ct] 26)).alloc (.cells #[.slice none 0 0, .slice none 0 0, .slice none 0 0, .slice none 0 0, .slice none 0 0] 26)) := ⟨_, rfl⟩
  have b1 : Below (w.alloc (.cells #[.slice v.s v.ns v.cs, .slice v.g v.ng v.cg, .slice v.b v.nb v.cb, .slice v.r v.nr v.cr, .slice v.t v.nt v.ct] 26)).heap.size (w.alloc (.cells #[.slice v.s v.ns v.cs, .slice v.g v.ng v.cg, .slice v.b v.nb v.cb, .slice v.r v.nr v.cr, .slice v.t v.nt v.ct] 26)) ((w.alloc (.cells #[.slice v.s v.ns v.cs, .slice v.g v.ng v.cg, .slice v.b v.nb v.cb, .slice v.r v.nr v.cr, .slice v.t v.nt v.ct] 26)).alloc (.cells #[.slice none 0 0, .slice none 0 0, .slice none 0 0, .slice none 0 0, .slice none 0 0] 26)) := (Below.refl _ _).alloc (Nat.le_refl _) _
  have kR : Blk ((w.alloc (.cells #[.slice v.s v.ns v.cs, .slice v.g v.ng v.cg, .slice v.b v.nb v.cb, .slice v.r v.nr v.cr, .slice v.t v.nt v.ct] 26)).alloc (.cells #[.slice none 0 0, .slice none 0 0, .slice none 0 0, .slice none 0 0, .slice none 0 0] 26)) (w.heap.size + 1) #[.slice none 0 0, .slice none 0 0, .slice none 0 0, .slice none 0 0, .slice none 0 0] 26 := by simpa using Blk.new (w.alloc (.cells #[.slice v.s v.ns v.cs, .slice v.g v.ng v.cg, .slice v.b v.nb v.cb, .slice v.r v.nr v.cr, .slice v.t v.nt v.ct] 26)) #[.slice none 0 0, .slice none 0 0, .slice none 0 0, .slice none 0 0, .slice none 0 0] 26
  replace q0 := keepc b1 q0
  replace q1 := keepc b1 q1
  replace q2 := keepc b1 q2
  replace q3 := keepc b1 q3
  replace q4 := keepc b1 q4
  replace B0 := B0.trans (b1.mono B0.size)
  have HW0 := Lib.hid hW0
  rw [← hW0] at q0 q1 q2 q3 q4 B0 kR
  clear b1 hW0
  have HRES := Lib.hid hres
  have HF := Lib.hid hf
  clear hres hf
  rcases Bool.eq_false_or_eq_true (progValid p) with hv | hv
  rotate_left
  · have HN : Hid (changeP p thread res = none) := Lib.hid (by unfold changeP; rw [if_neg (by rw [hv]; simp)])
    have HV := Lib.hid hv
    clear hv
    go_enter Try.func38, Try.ntmps38
    go_wp2_with fail
    rw [← HW0.out]
    refine (implProgValid_any v p _ (hr.below B0) HZ.out).mono ?_
    rintro e w1 ⟨rfl, hb⟩
    rw [HV.out]
    have kR1 := kR.below hb
    have c0 := keepc hb q0
    have c1 := keepc hb q1
    have c2 := keepc hb q2
    have c3 := keepc hb q3
    have c4 := keepc hb q4
    have B1 := B0.trans (hb.mono B0.size)
    clear hb
    have y0 := kR1.cell 0 rfl
    have x0 := kR1.fz 0
    have y1 := kR1.cell 1 rfl
    have x1 := kR1.fz 1
    have y2 := kR1.cell 2 rfl
    have x2 := kR1.fz 2
    have y3 := kR1.cell 3 rfl
    have x3 := kR1.fz 3
    have y4 := kR1.cell 4 rfl
    have x4 := kR1.fz 4
    go_wp2
    refine bodyPost_ret (v := .tuple #[.agg #[.slice none 0 0, .slice none 0 0, .slice none 0 0, .slice none 0 0, .slice none 0 0], .bool false]) (by simp [results, Try.results38, go_sem, y0, y1, y2, y3, y4]) rfl ⟨nilPV, [], by rw [HN.out]; rfl, by rw [HN.out]; exact own_nil _, by rw [fp_nil]; exact List.nodup_nil, by simp [fp_nil], ?_⟩
    exact ((((B1.setCell (Nat.le_add_right _ _) _).setCell (Nat.le_add_right _ _) _).setCell (Nat.le_add_right _ _) _).setCell (Nat.le_add_right _ _) _).setCell (Nat.le_add_right _ _) _
  by_cases hc0 : thread < 0
  · have t0 : decide (thread < 0) = true := decide_eq_true hc0
    have HN : Hid (changeP p thread res = none) := Lib.hid (by unfold changeP; rw [if_neg (by rintro ⟨_, h1, h2⟩; have := lt.out; omega)])
    have HV := Lib.hid hv
    clear hv
    go_enter Try.func38, Try.ntmps38
    go_wp2_with fail
    rw [← HW0.out]
    refine (implProgValid_any v p _ (hr.below B0) HZ.out).mono ?_
    rintro e w1 ⟨rfl, hb⟩
    rw [HV.out]
    have kR1 := kR.below hb
    have c0 := keepc hb q0
    have c1 := keepc hb q1
    have c2 := keepc hb q2
    have c3 := keepc hb q3
    have c4 := keepc hb q4
    have B1 := B0.trans (hb.mono B0.size)
    clear hb
    have y0 := kR1.cell 0 rfl
    have x0 := kR1.fz 0
    have y1 := kR1.cell 1 rfl
    have x1 := kR1.fz 1
    have y2 := kR1.cell 2 rfl
    have x2 := kR1.fz 2
    have y3 := kR1.cell 3 rfl
    have x3 := kR1.fz 3
    have y4 := kR1.cell 4 rfl
    have x4 := kR1.fz 4
    go_wp2
    refine bodyPost_ret (v := .tuple #[.agg #[.slice none 0 0, .slice none 0 0, .slice none 0 0, .slice none 0 0, .slice none 0 0], .bool false]) (by simp [results, Try.results38, go_sem, y0, y1, y2, y3, y4]) rfl ⟨nilPV, [], by rw [HN.out]; rfl, by rw [HN.out]; exact own_nil _, by rw [fp_nil]; exact List.nodup_nil, by simp [fp_nil], ?_⟩
    exact ((((B1.setCell (Nat.le_add_right _ _) _).setCell (Nat.le_add_right _ _) _).setCell (Nat.le_add_right _ _) _).setCell (Nat.le_add_right _ _) _).setCell (Nat.le_add_right _ _) _
  have t0 : decide (thread < 0) = false := decide_eq_false hc0
  by_cases hc1 : v.nt ≤ thread
  · have t1 : decide ((v.nt : Int) ≤ thread) = true := decide_eq_true hc1
    have HN : Hid (changeP p thread res = none) := Lib.hid (by unfold changeP; rw [if_neg (by rintro ⟨_, h1, h2⟩; have := lt.out; omega)])
    have HV := Lib.hid hv
    clear hv
    go_enter Try.func38, Try.ntmps38
    go_wp2_with fail
    rw [← HW0.out]
    refine (implProgValid_any v p _ (hr.below B0) HZ.out).mono ?_
    rintro e w1 ⟨rfl, hb⟩
    rw [HV.out]
    have kR1 := kR.below hb
    have c0 := keepc hb q0
    have c1 := keepc hb q1
    have c2 := keepc hb q2
    have c3 := keepc hb q3
    have c4 := keepc hb q4
    have B1 := B0.trans (hb.mono B0.size)
    clear hb
    have y0 := kR1.cell 0 rfl
    have x0 := kR1.fz 0
    have y1 := kR1.cell 1 rfl
    have x1 := kR1.fz 1
    have y2 := kR1.cell 2 rfl
    have x2 := kR1.fz 2
    have y3 := kR1.cell 3 rfl
    have x3 := kR1.fz 3
    have y4 := kR1.cell 4 rfl
    have x4 := kR1.fz 4
    go_wp2
    refine bodyPost_ret (v := .tuple #[.agg #[.slice none 0 0, .slice none 0 0, .slice none 0 0, .slice none 0 0, .slice none 0 0], .bool false]) (by simp [results, Try.results38, go_sem, y0, y1, y2, y3, y4]) rfl ⟨nilPV, [], by rw [HN.out]; rfl, by rw [HN.out]; exact own_nil _, by rw [fp_nil]; exact List.nodup_nil, by simp [fp_nil], ?_⟩
    exact ((((B1.setCell (Nat.le_add_right _ _) _).setCell (Nat.le_add_right _ _) _).setCell (Nat.le_add_right _ _) _).setCell (Nat.le_add_right _ _) _).setCell (Nat.le_add_right _ _) _
  have t1 : decide ((v.nt : Int) ≤ thread) = false := decide_eq_false hc1
  have hpos : 0 < p.threads.length := by have := lt.out; omega
  have HCH : Hid (changeP p thread res = res) := Lib.hid (by unfold changeP; rw [if_pos ⟨hv, by omega, by have := lt.out; omega⟩])
  have HFF := Lib.hid (HF.out hv (by omega) (by have := lt.out; omega))
  replace HRES := Lib.hid (HRES.out hv (by omega) (by have := lt.out; omega))
  have HV := Lib.hid hv
  clear hv
  go_enter Try.func38, Try.ntmps38
  go_wp2_with fail
  rw [← HW0.out]
  refine (implProgValid_any v p _ (hr.below B0) HZ.out).mono ?_
  rintro e w1 ⟨rfl, hb⟩
  rw [HV.out]
  have kR1 := kR.below hb
  have c0 := keepc hb q0
  have c1 := keepc hb q1
  have c2 := keepc hb q2
  have c3 := keepc hb q3
  have c4 := keepc hb q4
  have B1 := B0.trans (hb.mono B0.size)
  clear hb
  go_wp2_with fail
  refine (clone_any v p _ (hr.below B1) HZ.out hpos).mono ?_
  rintro e w2 ⟨u, us, rfl, ou, hnd, hfr, hb⟩
  have kR2 := kR1.below hb
  have B2 := B1.trans (hb.mono B1.size)
  have hs1 := B1.size
  clear c0 c1 c2 c3 c4
  have bq : Below w2.heap.size w2 (w2.alloc (.cells #[.slice u.s u.ns u.cs, .slice u.g u.ng u.cg, .slice u.b u.nb u.cb, .slice u.r u.nr u.cr, .slice u.t u.nt u.ct] 26)) := (Below.refl _ _).alloc (Nat.le_refl _) _
  have kQ : Blk (w2.alloc (.cells #[.slice u.s u.ns u.cs, .slice u.g u.ng u.cg, .slice u.b u.nb u.cb, .slice u.r u.nr u.cr, .slice u.t u.nt u.ct] 26)) w2.heap.size #[.slice u.s u.ns u.cs, .slice u.g u.ng u.cg, .slice u.b u.nb u.cb, .slice u.r u.nr u.cr, .slice u.t u.nt u.ct] 26 := Blk.new _ _ _
  have hcl := HFF.out w1 B1 u us (w2.alloc (.cells #[.slice u.s u.ns u.cs, .slice u.g u.ng u.cg, .slice u.b u.nb u.cb, .slice u.r u.nr u.cr, .slice u.t u.nt u.ct] 26)) w2.heap.size (hb.trans (bq.mono hb.size)) hb.size (ou.below bq) hnd hfr kQ
  have HCL := Lib.hid hcl
  have hs2 : w.heap.size + 1 < w2.heap.size := kR2.lt
  have hs12 : w.heap.size + 1 < w1.heap.size := kR1.lt
  clear hcl hnd hfr ou hb
  cases hres : res with
  | none =>
    have HN : Hid (changeP p thread res = none) := Lib.hid (HCH.out.trans hres)
    rw [hres] at HCL
    clear HCH HRES HFF HF hres
    go_wp2_with (go_at_fn f; refine HCL.out.mono ?_; rintro e w3 ⟨rfl, hb3, -⟩; have kR3 := kR1.below hb3; have y0 := kR3.cell 0 rfl; have x0 := kR3.fz 0; have y1 := kR3.cell 1 rfl; have x1 := kR3.fz 1; have y2 := kR3.cell 2 rfl; have x2 := kR3.fz 2; have y3 := kR3.cell 3 rfl; have x3 := kR3.fz 3; have y4 := kR3.cell 4 rfl; have x4 := kR3.fz 4; have B3 := B1.trans (hb3.mono B1.size))
    refine bodyPost_ret (v := .tuple #[.agg #[.slice none 0 0, .slice none 0 0, .slice none 0 0, .slice none 0 0, .slice none 0 0], .bool false]) (by simp [results, Try.results38, go_sem, y0, y1, y2, y3, y4]) rfl ⟨nilPV, [], by rw [HN.out]; rfl, by rw [HN.out]; exact own_nil _, by rw [fp_nil]; exact List.nodup_nil, by simp [fp_nil], ?_⟩
    exact ((((B3.setCell (Nat.le_add_right _ _) _).setCell (Nat.le_add_right _ _) _).setCell (Nat.le_add_right _ _) _).setCell (Nat.le_add_right _ _) _).setCell (Nat.le_add_right _ _) _
  | some p' =>
    have HN : Hid (changeP p thread res = some p') := Lib.hid (HCH.out.trans hres)
    rw [hres] at HCL HRES
    obtain ⟨hsp, hnp⟩ := HRES.out p' rfl
    have HSP := Lib.hid hsp
    clear HCH HRES HFF HF hres hsp
    go_wp2_with (first | (go_at_fn f; refine HCL.out.mono ?_; rintro e w3 ⟨rfl, hb3, hh⟩; obtain ⟨u', kQ3, ru'⟩ := hh p' rfl; have kR3 := kR1.below hb3; have z0 := kQ3.cell 0 rfl; have z1 := kQ3.cell 1 rfl; have z2 := kQ3.cell 2 rfl; have z3 := kQ3.cell 3 rfl; have z4 := kQ3.cell 4 rfl; have B3 := B1.trans (hb3.mono B1.size)) | (go_at_call 83; refine (clone_any u' p' _ ru' (HSP.out.at ru') hnp).mono ?_; rintro e w4 ⟨t, ts, rfl, ot, hnd, hfr, hb4⟩; have kR4 := kR3.below hb4; have B4 := B3.trans (hb4.mono B3.size); have hs3 := kR3.lt; have HOT := Lib.hid ot; have HFR := Lib.hid hfr; have y0 := kR4.cell 0 rfl; have x0 := kR4.fz 0; have y1 := kR4.cell 1 rfl; have x1 := kR4.fz 1; have y2 := kR4.cell 2 rfl; have x2 := kR4.fz 2; have y3 := kR4.cell 3 rfl; have x3 := kR4.fz 3; have y4 := kR4.cell 4 rfl; have x4 := kR4.fz 4; clear ot hfr))
    refine bodyPost_ret (v := .tuple #[.agg #[.slice t.s t.ns t.cs, .slice t.g t.ng t.cg, .slice t.b t.nb t.cb, .slice t.r t.nr t.cr, .slice t.t t.nt t.ct], .bool true]) (by simp [results, Try.results38, go_sem, y0, y1, y2, y3, y4]) rfl ⟨t, ts, by rw [HN.out]; rfl, ?_, hnd, fun q hq => by have := HFR.out q hq; omega, ?_⟩
    · rw [HN.out]
      refine HOT.out.touch (S := [w.heap.size + 1]) ?_ (fun q hq hm => by have := HFR.out q hq; simp at hm; omega)
      exact Touch.set (Touch.set (Touch.set (Touch.set (Touch.set (Touch.refl _ _) (by simp)) (by simp)) (by simp)) (by simp)) (by simp)
    · exact ((((B4.setCell (Nat.le_add_right _ _) _).setCell (Nat.le_add_right _ _) _).setCell (Nat.le_add_right _ _) _).setCell (Nat.le_add_right _ _) _).setCell (Nat.le_add_right _ _) _

end Go.Proofs.Ytnobkdkfhgjeeab
