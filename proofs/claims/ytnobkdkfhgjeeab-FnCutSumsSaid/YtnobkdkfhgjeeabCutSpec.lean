/- CutThread: the reference's text. -/
import Derived.Test.YtnobkdkfhgjeeabBaseE
import Derived.Test.YtnobkdkfhgjeeabCut
import Derived.Test.YtnobkdkfhgjeeabBaseA
namespace Go.Proofs.Ytnobkdkfhgjeeab
open Go.RowKit

theorem Rd.take {w : World} {a : Option Addr} {cs : List Value} (h : Rd w a cs) (k : Nat) : Rd w a (cs.take k) := by
  rcases h with rfl | ⟨b, o, e, h⟩
  · exact .inl (by simp)
  · exact .inr ⟨b, o, e, fun j hj => by
      rw [List.length_take] at hj
      rw [h j (by omega)]
      simp [List.getD, show j < k by omega]⟩

set_option maxRecDepth 100000 in
set_option maxHeartbeats 4000000 in
theorem specCutThread_any (v : PV) (p : Pg) (a : Int) (w : World) (hr : RdP w v p) (hz : Small v p) :
    Calls Try.prog 12 #[.agg #[.slice v.s v.ns v.cs, .slice v.g v.ng v.cg, .slice v.b v.nb v.cb, .slice v.r v.nr v.cr, .slice v.t v.nt v.ct], .int .i64 a] w fun e w' => ∃ u : PV, e = .returned (.tuple #[.agg #[.slice u.s u.ns u.cs, .slice u.g u.ng u.cg, .slice u.b u.nb u.cb, .slice u.r u.nr u.cr, .slice u.t u.nt u.ct], .bool (cutThread p a).isSome]) ∧ RdP w' u ((cutThread p a).getD noPg) ∧ Below w.heap.size w w' := by
  have hs : v.ns ≤ maxLen ∧ v.ng ≤ maxLen ∧ v.nb ≤ maxLen ∧ v.nr ≤ maxLen := by
    obtain ⟨z1, z2, z3, z4, z5, z6⟩ := hz; unfold maxLen; omega
  have zz : Hid (v.ns ≤ maxLen ∧ v.ng ≤ maxLen ∧ v.nb ≤ maxLen ∧ v.nr ≤ maxLen) := Lib.hid hs
  have HZ := Lib.hid hz
  have z5 : v.nt ≤ 1048576 := hz.lt
  have Z6 := Lib.hid hz.inn
  have ls := Lib.hid hr.ls
  have lg := Lib.hid hr.lg
  have lb := Lib.hid hr.lb
  have lr := Lib.hid hr.lr
  have lt := Lib.hid hr.lt
  clear hz
  have B0 : Below w.heap.size w (w.alloc (.cells #[.slice v.s v.ns v.cs, .slice v.g v.ng v.cg, .slice v.b v.nb v.cb, .slice v.r v.nr v.cr, .slice v.t v.nt v.ct] 26)) := (Below.refl _ _).alloc (Nat.le_refl _) _
  have k0 : Blk (w.alloc (.cells #[.slice v.s v.ns v.cs, .slice v.g v.ng v.cg, .slice v.b v.nb v.cb, .slice v.r v.nr v.cr, .slice v.t v.nt v.ct] 26)) w.heap.size #[.slice v.s v.ns v.cs, .slice v.g v.ng v.cg, .slice v.b v.nb v.cb, .slice v.r v.nr v.cr, .slice v.t v.nt v.ct] 26 := Blk.new _ _ _
  have q0 : (w.alloc (.cells #[.slice v.s v.ns v.cs, .slice v.g v.ng v.cg, .slice v.b v.nb v.cb, .slice v.r v.nr v.cr, .slice v.t v.nt v.ct] 26)).cell? ⟨w.heap.size, 0, none⟩ = some (.slice v.s v.ns v.cs) := k0.cell 0 rfl
  have q1 : (w.alloc (.cells #[.slice v.s v.ns v.cs, .slice v.g v.ng v.cg, .slice v.b v.nb v.cb, .slice v.r v.nr v.cr, .slice v.t v.nt v.ct] 26)).cell? ⟨w.heap.size, 1, none⟩ = some (.slice v.g v.ng v.cg) := k0.cell 1 rfl
  have q2 : (w.alloc (.cells #[.slice v.s v.ns v.cs, .slice v.g v.ng v.cg, .slice v.b v.nb v.cb, .slice v.r v.nr v.cr, .slice v.t v.nt v.ct] 26)).cell? ⟨w.heap.size, 2, none⟩ = some (.slice v.b v.nb v.cb) := k0.cell 2 rfl
  have q3 : (w.alloc (.cells #[.slice v.s v.ns v.cs, .slice v.g v.ng v.cg, .slice v.b v.nb v.cb, .slice v.r v.nr v.cr, .slice v.t v.nt v.ct] 26)).cell? ⟨w.heap.size, 3, none⟩ = some (.slice v.r v.nr v.cr) := k0.cell 3 rfl
  have q4 : (w.alloc (.cells #[.slice v.s v.ns v.cs, .slice v.g v.ng v.cg, .slice v.b v.nb v.cb, .slice v.r v.nr v.cr, .slice v.t v.nt v.ct] 26)).cell? ⟨w.heap.size, 4, none⟩ = some (.slice v.t v.nt v.ct) := k0.cell 4 rfl
  clear k0
  obtain ⟨W0, hW0⟩ : ∃ W0 : World, W0 = ((w.alloc (.cells #[.slice v.s v.ns v.cs, .slice v.g v.ng v.cg, .slice v.b v.nb v.cb, .slice v.r v.nr v.cr, .slice v.t v.nt v.ct] 26)).alloc (.cells #[.slice none 0 0, .slice none 0 0, .slice none 0 0, .slice none 0 0, .slice none 0 0] 26)) := ⟨_, rfl⟩
  have b1 : Below (w.alloc (.cells #[.slice v.s v.ns v.cs, .slice v.g v.ng v.cg, .slice v.b v.nb v.cb, .slice v.r v.nr v.cr, .slice v.t v.nt v.ct] 26)).heap.size (w.alloc (.cells #[.slice v.s v.ns v.cs, .slice v.g v.ng v.cg, .slice v.b v.nb v.cb, .slice v.r v.nr v.cr, .slice v.t v.nt v.ct] 26)) ((w.alloc (.cells #[.slice v.s v.ns v.cs, .slice v.g v.ng v.cg, .slice v.b v.nb v.cb, .slice v.r v.nr v.cr, .slice v.t v.nt v.ct] 26)).alloc (.cells #[.slice none 0 0, .slice none 0 0, .slice none 0 0, .slice none 0 0, .slice none 0 0] 26)) := (Below.refl _ _).alloc (Nat.le_refl _) _
  have kR : Blk ((w.alloc (.cells #[.slice v.s v.ns v.cs, .slice v.g v.ng v.cg, .slice v.b v.nb v.cb, .slice v.r v.nr v.cr, .slice v.t v.nt v.ct] 26)).alloc (.cells #[.slice none 0 0, .slice none 0 0, .slice none 0 0, .slice none 0 0, .slice none 0 0] 26)) (w.heap.size + 1) #[.slice none 0 0, .slice none 0 0, .slice none 0 0, .slice none 0 0, .slice none 0 0] 26 := by simpa using Blk.new (w.alloc (.cells #[.slice v.s v.ns v.cs, .slice v.g v.ng v.cg, .slice v.b v.nb v.cb, .slice v.r v.nr v.cr, .slice v.t v.nt v.ct] 26)) #[.slice none 0 0, .slice none 0 0, .slice none 0 0, .slice none 0 0, .slice none 0 0] 26
  replace q0 := keepc b1 q0
  replace q1 := keepc b1 q1
  replace q2 := keepc b1 q2
  replace q3 := keepc b1 q3
  replace q4 := keepc b1 q4
  replace B0 := B0.trans (b1.mono B0.size)
  have HW0 := Lib.hid hW0
  rw [← hW0] at q0 q1 q2 q3 q4 B0 kR
  clear b1 hW0
  rcases Bool.eq_false_or_eq_true (isThr p a) with ha | ha
  rotate_left
  · have HN : Hid (cutThread p a = none) := Lib.hid (change_not ha)
    have HA := Lib.hid ha
    clear ha
    go_enter Try.func12, Try.ntmps12
    go_wp2_with fail
    rw [← HW0.out]
    refine (l11Thread_any v p a _ (hr.below B0) HZ.out).mono ?_
    rintro e w1 ⟨rfl, hb⟩
    rw [HA.out]
    have kR' := kR.below hb
    clear kR
    have kR := kR'
    clear kR'
    replace q0 := keepc hb q0
    replace q1 := keepc hb q1
    replace q2 := keepc hb q2
    replace q3 := keepc hb q3
    replace q4 := keepc hb q4
    replace B0 := B0.trans (hb.mono B0.size)
    clear hb
    have y0 := kR.cell 0 rfl
    have x0 := kR.fz 0
    have y1 := kR.cell 1 rfl
    have x1 := kR.fz 1
    have y2 := kR.cell 2 rfl
    have x2 := kR.fz 2
    have y3 := kR.cell 3 rfl
    have x3 := kR.fz 3
    have y4 := kR.cell 4 rfl
    have x4 := kR.fz 4
    go_wp2
    refine bodyPost_ret (v := .tuple #[.agg #[.slice none 0 0, .slice none 0 0, .slice none 0 0, .slice none 0 0, .slice none 0 0], .bool false]) (by simp [results, Try.results12, go_sem, y0, y1, y2, y3, y4]) rfl ⟨nilPV, by rw [HN.out]; rfl, by rw [HN.out]; exact (own_nil _).rd, ?_⟩
    exact ((((B0.setCell (Nat.le_add_right _ _) _).setCell (Nat.le_add_right _ _) _).setCell (Nat.le_add_right _ _) _).setCell (Nat.le_add_right _ _) _).setCell (Nat.le_add_right _ _) _
  by_cases hc : p.threads.length = 1
  · have HN : Hid (cutThread p a = none) := Lib.hid (by unfold cutThread; rw [change_of ha]; unfold cutRes; rw [if_pos hc])
    have HA := Lib.hid ha
    have t1 : v.nt = 1 := by rw [← lt.out]; exact hc
    have t0 : ((v.nt : Int) == 1) = true := by rw [t1]; rfl
    clear ha hc t1
    go_enter Try.func12, Try.ntmps12
    go_wp2_with fail
    rw [← HW0.out]
    refine (l11Thread_any v p a _ (hr.below B0) HZ.out).mono ?_
    rintro e w1 ⟨rfl, hb⟩
    rw [HA.out]
    have kR' := kR.below hb
    clear kR
    have kR := kR'
    clear kR'
    replace q0 := keepc hb q0
    replace q1 := keepc hb q1
    replace q2 := keepc hb q2
    replace q3 := keepc hb q3
    replace q4 := keepc hb q4
    replace B0 := B0.trans (hb.mono B0.size)
    clear hb
    have y0 := kR.cell 0 rfl
    have x0 := kR.fz 0
    have y1 := kR.cell 1 rfl
    have x1 := kR.fz 1
    have y2 := kR.cell 2 rfl
    have x2 := kR.fz 2
    have y3 := kR.cell 3 rfl
    have x3 := kR.fz 3
    have y4 := kR.cell 4 rfl
    have x4 := kR.fz 4
    go_wp2
    refine bodyPost_ret (v := .tuple #[.agg #[.slice none 0 0, .slice none 0 0, .slice none 0 0, .slice none 0 0, .slice none 0 0], .bool false]) (by simp [results, Try.results12, go_sem, y0, y1, y2, y3, y4]) rfl ⟨nilPV, by rw [HN.out]; rfl, by rw [HN.out]; exact (own_nil _).rd, ?_⟩
    exact ((((B0.setCell (Nat.le_add_right _ _) _).setCell (Nat.le_add_right _ _) _).setCell (Nat.le_add_right _ _) _).setCell (Nat.le_add_right _ _) _).setCell (Nat.le_add_right _ _) _
  obtain ⟨_, ha0, ha1⟩ := isThr_iff.1 ha
  have HN : Hid (cutThread p a = some (p.thr (p.threads.eraseIdx a.toNat))) := Lib.hid (by unfold cutThread; rw [change_of ha]; unfold cutRes; rw [if_neg hc])
  rw [lt.out] at ha1 hc
  have t0 : ((v.nt : Int) == 1) = false := by simp; omega
  have HA := Lib.hid ha
  clear ha
  obtain ⟨na, rfl⟩ := Int.eq_ofNat_of_zero_le ha0
  go_enter Try.func12, Try.ntmps12
  go_wp2_with fail
  rw [← HW0.out]
  refine (l11Thread_any v p na _ (hr.below B0) HZ.out).mono ?_
  rintro e w1 ⟨rfl, hb⟩
  rw [HA.out]
  have kR' := kR.below hb
  clear kR
  have kR := kR'
  clear kR'
  replace q0 := keepc hb q0
  replace q1 := keepc hb q1
  replace q2 := keepc hb q2
  replace q3 := keepc hb q3
  replace q4 := keepc hb q4
  replace B0 := B0.trans (hb.mono B0.size)
  clear hb
  go_wp2_with fail
  refine (l6Copy_any v p _ (hr.below B0) HZ.out).mono ?_
  rintro e w2 ⟨u, us, rfl, ou, hnd, hfr, four, hb⟩
  have hs0 := B0.size
  have hsr := kR.lt
  obtain ⟨T, eT, hT1, hT2⟩ := owns_at ou.ot.out (by have h1 := ou.ot.len; simp only [Pg.cells, List.length_map] at h1; have := lt.out; omega)
  have hTf := hfr T (by unfold fpP fpT; rw [eT]; simp [rowOf])
  obtain ⟨sU, nsU, csU, gU, ngU, cgU, bU, nbU, cbU, rU, nrU, crU, tU, ntU, ctU⟩ := u
  dsimp only at eT ou hfr hnd four ⊢
  subst eT
  have kR' := kR.below hb
  clear kR
  have kR := kR'
  clear kR'
  replace q0 := keepc hb q0
  replace q1 := keepc hb q1
  replace q2 := keepc hb q2
  replace q3 := keepc hb q3
  replace q4 := keepc hb q4
  replace B0 := B0.trans (hb.mono B0.size)
  have hs2 := kR.lt
  have hs1 := hb.size
  have bq : Below w2.heap.size w2 (w2.alloc (.cells #[.slice sU nsU csU, .slice gU ngU cgU, .slice bU nbU cbU, .slice rU nrU crU, .slice (some ⟨T, 0, none⟩) ntU ctU] 26)) := (Below.refl _ _).alloc (Nat.le_refl _) _
  have kQ : Blk (w2.alloc (.cells #[.slice sU nsU csU, .slice gU ngU cgU, .slice bU nbU cbU, .slice rU nrU crU, .slice (some ⟨T, 0, none⟩) ntU ctU] 26)) w2.heap.size #[.slice sU nsU csU, .slice gU ngU cgU, .slice bU nbU cbU, .slice rU nrU crU, .slice (some ⟨T, 0, none⟩) ntU ctU] 26 := Blk.new _ _ _
  have hO := ou.below bq
  have kR' := kR.below bq
  clear kR
  have kR := kR'
  clear kR'
  replace q0 := keepc bq q0
  replace q1 := keepc bq q1
  replace q2 := keepc bq q2
  replace q3 := keepc bq q3
  replace q4 := keepc bq q4
  replace B0 := B0.trans (bq.mono B0.size)
  clear bq ou hb
  go_wp2
  generalize (w2.alloc (.cells #[.slice sU nsU csU, .slice gU ngU cgU, .slice bU nbU cbU, .slice rU nrU crU, .slice (some ⟨T, 0, none⟩) ntU ctU] 26)) = WA at *
  generalize w2.heap.size = BQ at *
  have e4 := kQ.cell 4 rfl
  have hnt : p.threads.length = ntU := by have := hO.ot.len; simpa [Pg.cells] using this
  have hlt := lt.out
  have hz5 := HZ.out.lt
  have hot := hO.ot.out
  dsimp only at hot
  have hvl := hO.ot.vlen
  dsimp only at hvl
  have one : ∀ x ∈ us, x.oneCell' = true := by
    intro x hx
    obtain ⟨j, hj, rfl⟩ := List.mem_iff_getElem.1 hx
    obtain ⟨xa, ma, ya, e, -⟩ := hO.ot.inn j (by show j < ntU; omega)
    have : us[j] = us.getD j undef := by simp [List.getD, hj]
    rw [this, e]; rfl
  have hct : ntU ≤ ctU := by
    rcases hot.2 with ⟨h', _⟩ | ⟨g', cap', cur, h', _, _, h1, _⟩
    · cases h'
    · cases h'; exact h1
  have nb : na ≤ 1048576 := by omega
  have nb2 : ntU ≤ 1048576 := by omega
  have i0 : (0 : Int) ≤ (na : Int) := by omega
  have i1 : (na : Int) ≤ (ctU : Int) := by omega
  have i2 : (na : Int) + 1 ≤ (ntU : Int) := by omega
  have i3 : (na : Int) + 1 ≤ (ctU : Int) := by omega
  have i4 : (ntU : Int) ≤ (ctU : Int) := by omega
  have i5 : (0 : Int) ≤ (na : Int) + 1 := by omega
  have hwr : IntKind.i64.wrap ((na : Int) + 1) = (na : Int) + 1 := Go.IntWalk.i64_in _ (by omega)
  obtain ⟨A, hA⟩ : ∃ A : Addr, (if ctU = na + 1 then (⟨T, 0, none⟩ : Addr) else ⟨T, na + 1, none⟩) = A := ⟨_, rfl⟩
  have HRT : Hid (Rd WA (some ⟨T, 0, none⟩) (us.take na)) := Lib.hid ((Rd.of_owns hot).take na)
  have HLT : Hid ((us.take na).length = na * 1) := Lib.hid (by rw [List.length_take]; omega)
  have one1 : ∀ x ∈ us.take na, x.oneCell' = true := fun x hx => one x (List.mem_of_mem_take hx)
  have HONE := Lib.hid one
  have HOT := Lib.hid hot
  have HVL := Lib.hid hvl
  have HNT := Lib.hid hnt
  have HO := Lib.hid hO
  have HKQ := Lib.hid kQ
  have HKR := Lib.hid kR
  clear hot hvl hnt hlt hz5 hO one kQ kR
  refine wp_region_fresh 11 (by kernel_rfl) (by kernel_rfl) [fun dz uz wz => ∃ gz : Nat, uz = .slice (some ⟨gz, 0, none⟩) 0 0 ∧ wz.ownsRow WA.heap.size 34 1 (.slice (some ⟨gz, 0, none⟩) 0 0) 0 [], fun dz uz wz => uz = .pointer (some ⟨BQ, 4, none⟩), fun dz uz wz => uz = .slice (some ⟨T, 0, none⟩) ntU ctU, fun dz uz wz => uz = .int .i64 na, fun dz uz wz => uz = .slice (some ⟨T, 0, none⟩) na ctU, fun dz uz wz => ∃ (az : Option Addr) (cz : Nat), uz = .slice az na cz ∧ wz.ownsRow WA.heap.size 34 1 (.slice az na cz) na (us.take na) ∧ (na = 0 → cz = 0), fun dz uz wz => uz = .pointer (some ⟨BQ, 4, none⟩), fun dz uz wz => uz = .slice (some ⟨T, 0, none⟩) ntU ctU, fun dz uz wz => uz = .int .i64 na, fun dz uz wz => uz = .int .i64 ((na : Int) + 1), fun dz uz wz => uz = .slice (some A) (ntU - (na + 1)) (ctU - (na + 1))] (fun i => match i with | _ => fun _ => none) (fun w' => Below WA.heap.size WA w') (Below.refl _ _).drew (stab_of ⟨fun _ _ _ _ hb ⟨g, e, h⟩ => ⟨g, e, owns_below h hb⟩, fun _ _ _ _ _ h => h, fun _ _ _ _ _ h => h, fun _ _ _ _ _ h => h, fun _ _ _ _ _ h => h, fun _ _ _ _ hb ⟨a, c, e, h, h0⟩ => ⟨a, c, e, owns_below h hb, h0⟩, fun _ _ _ _ _ h => h, fun _ _ _ _ _ h => h, fun _ _ _ _ _ h => h, fun _ _ _ _ _ h => h, fun _ _ _ _ _ h => h, trivial⟩) ?_ ?_
  · simp only [List.take_succ_cons, List.take_zero]
    refine ⟨?_, ?_, ?_, ?_, ?_, ?_, ?_, ?_, ?_, ?_, ?_, trivial⟩
    · intro ρ w1 hG hfr hd
      have fc : ∀ z, ρ (.const z) = z := fun _ => hfr _ rfl
      have ff : ∀ z, ρ (.func z) = .func (.func z) #[] #[] := fun _ => hfr _ rfl
      refine gives_val (u := .slice (some ⟨w1.heap.size, 0, none⟩) 0 0) (w' := w1.alloc (.cells #[] 34)) (by go_simp) ⟨(Below.refl _ _).alloc (Nat.le_refl _) _, ⟨_, rfl, owns_mono (owns_empty w1 34 1) hG.size⟩, (fun _ hk => by cases hk), hG.alloc hG.size _⟩
    · intro ρ w1 hG hfr hd
      have fc : ∀ z, ρ (.const z) = z := fun _ => hfr _ rfl
      have ff : ∀ z, ρ (.func z) = .func (.func z) #[] #[] := fun _ => hfr _ rfl
      have f6 : ρ (.tmp 6) = .pointer (some ⟨BQ, 0, none⟩) := hfr _ rfl
      refine gives_val (u := .pointer (some ⟨BQ, 4, none⟩)) (w' := w1) (by go_simp) ⟨Below.refl _ _, rfl, (fun _ hk => by cases hk), hG⟩
    · intro ρ w1 hG hfr hd
      have fc : ∀ z, ρ (.const z) = z := fun _ => hfr _ rfl
      have ff : ∀ z, ρ (.func z) = .func (.func z) #[] #[] := fun _ => hfr _ rfl
      obtain ⟨d0, -⟩ := hd
      have d0 : (ρ (.tmp 21)) = .pointer (some ⟨BQ, 4, none⟩) := d0
      have e4 := keepc hG e4
      refine gives_val (u := .slice (some ⟨T, 0, none⟩) ntU ctU) (w' := w1) (by go_simp) ⟨Below.refl _ _, rfl, (fun _ hk => by cases hk), hG⟩
    · intro ρ w1 hG hfr hd
      have fc : ∀ z, ρ (.const z) = z := fun _ => hfr _ rfl
      have ff : ∀ z, ρ (.func z) = .func (.func z) #[] #[] := fun _ => hfr _ rfl
      have f1 : ρ (.tmp 1) = .int .i64 na := hfr _ rfl
      refine gives_val (u := .int .i64 na) (w' := w1) (by go_simp) ⟨Below.refl _ _, rfl, (fun _ hk => by cases hk), hG⟩
    · intro ρ w1 hG hfr hd
      have fc : ∀ z, ρ (.const z) = z := fun _ => hfr _ rfl
      have ff : ∀ z, ρ (.func z) = .func (.func z) #[] #[] := fun _ => hfr _ rfl
      obtain ⟨d0, d1, -⟩ := hd
      have d0 : (ρ (.tmp 22)) = .slice (some ⟨T, 0, none⟩) ntU ctU := d0
      have d1 : (ρ (.tmp 23)) = .int .i64 na := d1
      refine gives_val (u := .slice (some ⟨T, 0, none⟩) na ctU) (w' := w1) (by go_simp) ⟨Below.refl _ _, rfl, (fun _ hk => by cases hk), hG⟩
    · intro ρ w1 hG hfr hd
      have fc : ∀ z, ρ (.const z) = z := fun _ => hfr _ rfl
      have ff : ∀ z, ρ (.func z) = .func (.func z) #[] #[] := fun _ => hfr _ rfl
      obtain ⟨d0, d1, -⟩ := hd
      have d0 : ∃ gz : Nat, (ρ (.tmp 20)) = .slice (some ⟨gz, 0, none⟩) 0 0 ∧ w1.ownsRow WA.heap.size 34 1 (.slice (some ⟨gz, 0, none⟩) 0 0) 0 [] := d0
      have d1 : (ρ (.tmp 24)) = .slice (some ⟨T, 0, none⟩) na ctU := d1
      obtain ⟨g, d0, hg⟩ := d0
      refine gives_append_new _ _ 24 rfl Try.underlying24 info_ops rfl (by decide) d0 hg d1 HLT.out (HRT.out.below hG) one1 (by omega) (by decide) hG.size ?_
      intro a c w2 hown hb hf h0
      exact ⟨hb, ⟨a, c, rfl, hown, h0⟩, (fun _ hk => by cases hk), hG.trans (hb.mono hG.size)⟩
    · intro ρ w1 hG hfr hd
      have fc : ∀ z, ρ (.const z) = z := fun _ => hfr _ rfl
      have ff : ∀ z, ρ (.func z) = .func (.func z) #[] #[] := fun _ => hfr _ rfl
      have f6 : ρ (.tmp 6) = .pointer (some ⟨BQ, 0, none⟩) := hfr _ rfl
      refine gives_val (u := .pointer (some ⟨BQ, 4, none⟩)) (w' := w1) (by go_simp) ⟨Below.refl _ _, rfl, (fun _ hk => by cases hk), hG⟩
    · intro ρ w1 hG hfr hd
      have fc : ∀ z, ρ (.const z) = z := fun _ => hfr _ rfl
      have ff : ∀ z, ρ (.func z) = .func (.func z) #[] #[] := fun _ => hfr _ rfl
      obtain ⟨d0, -⟩ := hd
      have d0 : (ρ (.tmp 26)) = .pointer (some ⟨BQ, 4, none⟩) := d0
      have e4 := keepc hG e4
      refine gives_val (u := .slice (some ⟨T, 0, none⟩) ntU ctU) (w' := w1) (by go_simp) ⟨Below.refl _ _, rfl, (fun _ hk => by cases hk), hG⟩
    · intro ρ w1 hG hfr hd
      have fc : ∀ z, ρ (.const z) = z := fun _ => hfr _ rfl
      have ff : ∀ z, ρ (.func z) = .func (.func z) #[] #[] := fun _ => hfr _ rfl
      have f1 : ρ (.tmp 1) = .int .i64 na := hfr _ rfl
      refine gives_val (u := .int .i64 na) (w' := w1) (by go_simp) ⟨Below.refl _ _, rfl, (fun _ hk => by cases hk), hG⟩
    · intro ρ w1 hG hfr hd
      have fc : ∀ z, ρ (.const z) = z := fun _ => hfr _ rfl
      have ff : ∀ z, ρ (.func z) = .func (.func z) #[] #[] := fun _ => hfr _ rfl
      obtain ⟨d0, -⟩ := hd
      have d0 : (ρ (.tmp 28)) = .int .i64 na := d0
      refine gives_val (u := .int .i64 ((na : Int) + 1)) (w' := w1) (by go_simp) ⟨Below.refl _ _, rfl, (fun _ hk => by cases hk), hG⟩
    · intro ρ w1 hG hfr hd
      have fc : ∀ z, ρ (.const z) = z := fun _ => hfr _ rfl
      have ff : ∀ z, ρ (.func z) = .func (.func z) #[] #[] := fun _ => hfr _ rfl
      obtain ⟨d0, d1, -⟩ := hd
      have d0 : (ρ (.tmp 27)) = .slice (some ⟨T, 0, none⟩) ntU ctU := d0
      have d1 : (ρ (.tmp 29)) = .int .i64 ((na : Int) + 1) := d1
      refine gives_val (u := .slice (some A) (ntU - (na + 1)) (ctU - (na + 1))) (w' := w1) (by go_simp; rw [← hA]; split <;> rfl) ⟨Below.refl _ _, rfl, (fun _ hk => by cases hk), hG⟩
  intro vs w2 hG hlen hall hap hbd
  obtain ⟨xv0, vs0, rfl, hl0⟩ := len_cons hlen
  obtain ⟨xv1, vs1, rfl, hl1⟩ := len_cons hl0
  obtain ⟨xv2, vs2, rfl, hl2⟩ := len_cons hl1
  obtain ⟨xv3, vs3, rfl, hl3⟩ := len_cons hl2
  obtain ⟨xv4, vs4, rfl, hl4⟩ := len_cons hl3
  obtain ⟨xv5, vs5, rfl, hl5⟩ := len_cons hl4
  obtain ⟨xv6, vs6, rfl, hl6⟩ := len_cons hl5
  obtain ⟨xv7, vs7, rfl, hl7⟩ := len_cons hl6
  obtain ⟨xv8, vs8, rfl, hl8⟩ := len_cons hl7
  obtain ⟨xv9, vs9, rfl, hl9⟩ := len_cons hl8
  obtain ⟨xv10, vs10, rfl, hl10⟩ := len_cons hl9
  obtain rfl := len_nil hl10
  clear hlen hl0 hl1 hl2 hl3 hl4 hl5 hl6 hl7 hl8 hl9 hl10
  simp only [List.take_succ_cons, List.take_zero, List.drop_succ_cons, List.drop_zero] at hall ⊢
  obtain ⟨t0', t1', t2', t3', t4', t5', t6', t7', t8', t9', t10', -⟩ := hall
  have hv0 : ∃ gz : Nat, xv0 = .slice (some ⟨gz, 0, none⟩) 0 0 ∧ w2.ownsRow WA.heap.size 34 1 (.slice (some ⟨gz, 0, none⟩) 0 0) 0 [] := t0'
  have hv1 : xv1 = .pointer (some ⟨BQ, 4, none⟩) := t1'
  have hv2 : xv2 = .slice (some ⟨T, 0, none⟩) ntU ctU := t2'
  have hv3 : xv3 = .int .i64 na := t3'
  have hv4 : xv4 = .slice (some ⟨T, 0, none⟩) na ctU := t4'
  have hv5 : ∃ (az : Option Addr) (cz : Nat), xv5 = .slice az na cz ∧ w2.ownsRow WA.heap.size 34 1 (.slice az na cz) na (us.take na) ∧ (na = 0 → cz = 0) := t5'
  have hv6 : xv6 = .pointer (some ⟨BQ, 4, none⟩) := t6'
  have hv7 : xv7 = .slice (some ⟨T, 0, none⟩) ntU ctU := t7'
  have hv8 : xv8 = .int .i64 na := t8'
  have hv9 : xv9 = .int .i64 ((na : Int) + 1) := t9'
  have hv10 : xv10 = .slice (some A) (ntU - (na + 1)) (ctU - (na + 1)) := t10'
  clear t0' t1' t2' t3' t4' t5' t6' t7' t8' t9' t10'
  clear hap hbd
  subst hv1 hv2 hv3 hv4 hv6 hv7 hv8 hv9 hv10
  simp only [putAll, Act.put, List.setIfInBounds_toArray, List.set_cons_succ, List.set_cons_zero]
  obtain ⟨az, cz, rfl, hown5, -⟩ := hv5
  have hot2 := owns_below HOT.out hG
  have hvl := HVL.out
  have hB5 := hG.size
  have oneD : ∀ x ∈ us.drop (na + 1), x.oneCell' = true := fun x hx => HONE.out x (List.mem_of_mem_drop hx)
  have hld : (us.drop (na + 1)).length = (ntU - (na + 1)) * 1 := by rw [List.length_drop]; omega
  have hrs : Rd w2 (some A) (us.drop (na + 1)) := by
    by_cases hce : ctU = na + 1
    · exact .inl (List.drop_eq_nil_of_le (by omega))
    · rw [if_neg hce] at hA
      exact .inr ⟨T, na + 1, by rw [← hA], fun j hj => by
        rw [List.length_drop] at hj
        rw [hot2.cellAt _ (by omega)]
        simp [List.getD, show na + 1 + j < us.length by omega]⟩
  have kQ2 := HKQ.out.below hG
  have kR2 := HKR.out.below hG
  have HLD := Lib.hid hld
  clear hot2 hvl hld
  have hRQ : w.heap.size + 1 ≠ BQ := by omega
  go_wp2_with (at_builtin; refine wpList_append_rd (news := us.drop (na + 1)) rfl _ _ 24 rfl Try.underlying24 info_ops rfl (by decide) rfl hown5 rfl HLD.out hrs oneD (by omega) (by decide) hB5 ?_; intro a4 c4 w3 hown1 hgr1; have kQ3 := kQ2.grown hgr1 (blk_owns kQ2 hown5 types_ne.2.2.2.1); have kR3 := kR2.grown hgr1 (blk_owns kR2 hown5 types_ne.2.2.2.1); have f43 := kQ3.fz 4; have e43 := kQ3.cell 4 rfl; have kQ4 := kQ3.set 4 (.slice a4 (na + (ntU - (na + 1))) c4); have kR4 := kR3.other ⟨BQ, 4, none⟩ (.slice a4 (na + (ntU - (na + 1))) c4) hRQ; have g0 := kQ4.cell 0 rfl; have g1 := kQ4.cell 1 rfl; have g2 := kQ4.cell 2 rfl; have g3 := kQ4.cell 3 rfl; have g4 := kQ4.cell 4 rfl; have y0 := kR4.cell 0 rfl; have x0 := kR4.fz 0; have y1 := kR4.cell 1 rfl; have x1 := kR4.fz 1; have y2 := kR4.cell 2 rfl; have x2 := kR4.fz 2; have y3 := kR4.cell 3 rfl; have x3 := kR4.fz 3; have y4 := kR4.cell 4 rfl; have x4 := kR4.fz 4; have HB3 := Lib.hid (hG.trans (below_of_grown hgr1 hG.size (fun q hq => (owns_row hown5 q hq).1))); have H41 := Lib.hid hown1; have HKQ3 := Lib.hid kQ3; clear kQ3 kQ4 kR3 kR4 kQ2 kR2 hown1 hgr1 hown5 hG hrs)
  have HF := hfr
  refine bodyPost_ret (v := .tuple #[.agg #[.slice sU nsU csU, .slice gU ngU cgU, .slice bU nbU cbU, .slice rU nrU crU, .slice a4 (na + (ntU - (na + 1))) c4], .bool true]) (by simp [results, Try.results12, go_sem, y0, y1, y2, y3, y4]) rfl ⟨(PV.mk sU nsU csU gU ngU cgU bU nbU cbU rU nrU crU a4 (na + (ntU - (na + 1))) c4), by rw [HN.out]; rfl, ?_, ?_⟩
  · rw [HN.out]
    simp only [Option.getD_some, Int.toNat_natCast]
    have hvl := HVL.out
    have hnt := HNT.out
    have hbw := HKQ.out.lt
    have hO3 := HO.out.below HB3.out
    have hinn := hO3.inner_own (World.grownBy.refl _ _)
    have hOW := ownP_threads hO3 (World.grownBy.refl _ _) (owns_mono H41.out (Nat.zero_le _)) (ts' := p.threads.eraseIdx na) (by rw [List.length_eraseIdx]; split <;> omega) (fun i hi => by
      have hl : i < ntU - 1 := by rw [List.length_eraseIdx] at hi; split at hi <;> omega
      rw [← List.eraseIdx_eq_take_drop_succ, erase_get undef, erase_get []]
      split
      · exact hinn i (by omega)
      · exact hinn (i + 1) (by omega))
    have hOH := hOW.head HKQ3.out (grown_set w3 BQ 4 (.slice a4 (na + (ntU - (na + 1))) c4))
    have hF2 : ∀ k ∈ fpP (PV.mk sU nsU csU gU ngU cgU bU nbU cbU rU nrU crU a4 (na + (ntU - (na + 1))) c4) (us.take na ++ us.drop (na + 1)), w1.heap.size ≤ k := fp_thr HF (fun k hk => by have := (owns_row H41.out k hk).1; omega) (fun x hx k hk => by
      rcases List.mem_append.1 hx with hx | hx
      · exact HF k (mem_fp_row (List.mem_of_mem_take hx) hk)
      · exact HF k (mem_fp_row (List.mem_of_mem_drop hx) hk))
    refine rd_after (R := w.heap.size + 1) hOH ?_ hsr hF2
    exact Touch.set (Touch.set (Touch.set (Touch.set (Touch.set (Touch.refl _ _) (by simp)) (by simp)) (by simp)) (by simp)) (by simp)
  · have BE := (B0.trans (HB3.out.mono B0.size)).setCell (show w.heap.size ≤ (⟨BQ, 4, none⟩ : Addr).block from (by omega : w.heap.size ≤ BQ)) (.slice a4 (na + (ntU - (na + 1))) c4)
    exact ((((BE.setCell (Nat.le_add_right _ _) _).setCell (Nat.le_add_right _ _) _).setCell (Nat.le_add_right _ _) _).setCell (Nat.le_add_right _ _) _).setCell (Nat.le_add_right _ _) _

end Go.Proofs.Ytnobkdkfhgjeeab
