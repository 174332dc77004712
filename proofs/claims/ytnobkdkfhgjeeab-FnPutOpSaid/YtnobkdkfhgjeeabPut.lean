/- PutOp: plain words, the program's own text. -/
import Derived.Test.YtnobkdkfhgjeeabInsert
import Derived.Test.YtnobkdkfhgjeeabBaseB
import Derived.Deep.QuietTactic
import Derived.BigQuiet
namespace Go.Proofs.Ytnobkdkfhgjeeab
open Go.RowKit

def putRes (p : Pg) (t x : Int) (o : OpD) : Option Pg :=
  if 0 ≤ x ∧ x ≤ (p.threads.getD t.toNat []).length ∧ opValid p o = true ∧ (p.threads.getD t.toNat []).length < 8 then some (p.thr (p.threads.set t.toNat ((p.threads.getD t.toNat []).insertIdx x.toNat o))) else none
def putOp (p : Pg) (t x : Int) (o : OpD) : Option Pg := changeP p t (putRes p t x o)

set_option maxRecDepth 100000 in
set_option maxHeartbeats 8000000 in
theorem putFn_any (v : PV) (p : Pg) (t x : Int) (o : OpD) (H : World) (ba bb bp bo : Nat) (ha : H.cell? ⟨ba, 0, none⟩ = some (.int .i64 t)) (hb : H.cell? ⟨bb, 0, none⟩ = some (.int .i64 x))
    (hp : Blk H bp #[.slice v.s v.ns v.cs, .slice v.g v.ng v.cg, .slice v.b v.nb v.cb, .slice v.r v.nr v.cr, .slice v.t v.nt v.ct] 26) (ho : Blk H bo #[.int .i64 o.kind, .int .i64 o.on, .int .i64 o.arg] 44) (hr : RdP H v p) (hz : Small v p) (h0 : 0 ≤ t) (h1 : t < p.threads.length) (hsm : SmallP p) :
    Changes H 54 #[.pointer (some ⟨ba, 0, none⟩), .pointer (some ⟨bb, 0, none⟩), .pointer (some ⟨bp, 0, none⟩), .pointer (some ⟨bo, 0, none⟩)] p (putRes p t x o) := by
  intro u us W Bq hB hq hO hnd hfr kQ
  have zz : Hid (v.ns ≤ maxLen ∧ v.ng ≤ maxLen ∧ v.nb ≤ maxLen ∧ v.nr ≤ maxLen) := Lib.hid (by obtain ⟨z1, z2, z3, z4, z5, z6⟩ := hz; unfold maxLen; omega)
  have hnt : p.threads.length = u.nt := by have := hO.ot.len; simpa [Pg.cells] using this
  have ca := keepc hB ha
  have cb := keepc hB hb
  have kp := hp.below hB
  have ko := ho.below hB
  have HRP := Lib.hid (hr.below hB)
  have e4 := kQ.cell 4 rfl
  have hAl := World.block_lt_of_cell? _ _ ha
  have hBl := World.block_lt_of_cell? _ _ hb
  have hPl := hp.lt
  have hOl := ho.lt
  simp only at hAl hBl
  clear ha hb hp ho hr hz
  obtain ⟨na, rfl⟩ := Int.eq_ofNat_of_zero_le h0
  have hna : na < u.nt := by omega
  obtain ⟨T, eT, hT1, hT2⟩ := owns_at hO.ot.out (by omega)
  obtain ⟨xa, xc, exa, hrow⟩ := hO.row hna
  have hml : (p.threads.getD na []).length ≤ 1048576 := hsm.inn na
  have hnl := hsm.lt
  obtain ⟨m, hm⟩ : ∃ m, m = (p.threads.getD na []).length := ⟨_, rfl⟩
  rw [← hm] at exa hrow hml
  have HM := Lib.hid hm
  clear hm
  have hot := hO.ot.out
  rw [eT] at hot e4
  have hvl := hO.ot.vlen
  have ga : W.cell? ⟨T, na, none⟩ = some (.slice xa m xc) := by rw [hot.cellAt na (by omega), ← exa]; simp [List.getD, hvl, hna]
  have i0 : (0 : Int) ≤ (na : Int) := by omega
  have i1 : (na : Int) < u.nt := by omega
  have hHX : ∀ q, rowOf xa = some q → H.heap.size ≤ q := fun q hq' => hfr q (mem_fp_row (x := us.getD na undef) (by
    rw [List.getD_eq_getElem?_getD, List.getElem?_eq_getElem (by omega)]; simp) (by rw [exa, ownBlock_slice]; exact hq'))
  have hHT : H.heap.size ≤ T := hfr T (by unfold fpP fpT; rw [eT]; simp [rowOf])
  have hXT : T ∉ (rowOf xa).toList := fun h => owns_owns hot hrow types_ne.2.1.symm T rfl (by simpa using h)
  have hXQ : Bq ∉ (rowOf xa).toList := fun h => blk_owns kQ hrow types_ne.2.2.2.2.1 (by simpa using h)
  have hQT : Bq ≠ T := fun e => blk_owns kQ hot types_ne.2.2.2.1 (by rw [e]; rfl)
  have hXa : ba ∉ (rowOf xa).toList := fun h => by have := hHX ba (by simpa using h); omega
  have hXb : bb ∉ (rowOf xa).toList := fun h => by have := hHX bb (by simpa using h); omega
  have hXo : bo ∉ (rowOf xa).toList := fun h => by have := hHX bo (by simpa using h); omega
  have HXL : Hid (∀ q, rowOf xa = some q → q < W.heap.size) := Lib.hid (fun q hq' => (owns_row hrow q hq').2)
  have HHX := Lib.hid hHX
  have EXA := Lib.hid exa
  have HROW := Lib.hid hrow
  have HNT := Lib.hid hnt
  have HO := Lib.hid hO
  have HND := Lib.hid hnd
  have HOT := Lib.hid hot
  have HK := Lib.hid kQ
  have HKP := Lib.hid kp
  have HKO := Lib.hid ko
  have HCA := Lib.hid ca
  have HCB := Lib.hid cb
  have HE4 := Lib.hid e4
  clear exa hrow hnt hnd hvl h0 h1 hHX hO hot kQ kp ko hsm hfr
  by_cases hx0 : x < 0
  · have HN : Hid (putRes p na x o = none) := Lib.hid (by unfold putRes; rw [if_neg (by omega)])
    rw [HN.out]
    have t0 : decide (x < 0) = true := decide_eq_true hx0
    go_enter Try.func54, Try.ntmps54
    go_wp2
    go_quiet (fail)
    go_wp2
    go_ret
    exact ⟨rfl, hB.trans ((below_drewN' _ _).mono hB.size), by simp⟩
  by_cases hx1 : (m : Int) < x
  · have HN : Hid (putRes p na x o = none) := Lib.hid (by unfold putRes; rw [if_neg (by rw [Int.toNat_natCast, ← HM.out]; omega)])
    rw [HN.out]
    have t0 : decide (x < 0) = false := decide_eq_false hx0
    have t1 : decide ((m : Int) < x) = true := decide_eq_true hx1
    go_enter Try.func54, Try.ntmps54
    go_wp2
    go_quiet (fail)
    go_wp2
    go_ret
    exact ⟨rfl, hB.trans ((below_drewN' _ _).mono hB.size), by simp⟩
  have t0 : decide (x < 0) = false := decide_eq_false hx0
  have t1 : decide ((m : Int) < x) = false := decide_eq_false hx1
  obtain ⟨i, rfl⟩ := Int.eq_ofNat_of_zero_le (show 0 ≤ x by omega)
  have hi : i ≤ m := by omega
  clear hx0 hx1
  rcases Bool.eq_false_or_eq_true (opValid p o) with hv | hv
  rotate_left
  · have HN : Hid (putRes p na i o = none) := Lib.hid (by unfold putRes; rw [if_neg (by rw [hv]; simp)])
    rw [HN.out]
    have HV := Lib.hid hv
    clear hv
    go_enter Try.func54, Try.ntmps54
    go_wp2
    go_quiet (fail)
    obtain ⟨W0, hW0⟩ : ∃ W0 : World, W0 = W.drewN nq := ⟨_, rfl⟩
    have hd : Below W.heap.size W (W.drewN nq) := below_drewN' _ _
    rw [← hW0] at hd ⊢
    clear hW0
    have hBd := hB.trans (hd.mono hB.size)
    have ca := keepc hd ca
    have cb := keepc hd cb
    have e4 := keepc hd e4
    have kp := HKP.out.below hd
    have ko := HKO.out.below hd
    have HD := Lib.hid hd
    have p0 := kp.cell 0 rfl
    have p1 := kp.cell 1 rfl
    have p2 := kp.cell 2 rfl
    have p3 := kp.cell 3 rfl
    have p4 := kp.cell 4 rfl
    have o0 := ko.cell 0 rfl
    have o1 := ko.cell 1 rfl
    have o2 := ko.cell 2 rfl
    clear hd kp ko
    go_wp2_with fail
    refine (implOpValid_any v p o _ (HRP.out.below HD.out) zz.out).mono ?_
    rintro e w1 ⟨rfl, hb1⟩
    rw [HV.out]
    have hb := HD.out.trans (hb1.mono HD.out.size)
    have hB1 := hB.trans (hb.mono hB.size)
    clear hb1 o0 o1 o2 p0 p1 p2 p3 p4
    go_wp2
    go_ret
    exact ⟨rfl, hB1, by simp⟩
  by_cases h8 : 8 ≤ m
  · have HN : Hid (putRes p na i o = none) := Lib.hid (by unfold putRes; rw [if_neg (by rw [Int.toNat_natCast, ← HM.out]; omega)])
    rw [HN.out]
    have HV := Lib.hid hv
    have t2 : decide ((8 : Int) ≤ (m : Int)) = true := by simp; omega
    clear hv
    go_enter Try.func54, Try.ntmps54
    go_wp2
    go_quiet (fail)
    obtain ⟨W0, hW0⟩ : ∃ W0 : World, W0 = W.drewN nq := ⟨_, rfl⟩
    have hd : Below W.heap.size W (W.drewN nq) := below_drewN' _ _
    rw [← hW0] at hd ⊢
    clear hW0
    have hBd := hB.trans (hd.mono hB.size)
    have ca := keepc hd ca
    have cb := keepc hd cb
    have e4 := keepc hd e4
    have kp := HKP.out.below hd
    have ko := HKO.out.below hd
    have HD := Lib.hid hd
    have p0 := kp.cell 0 rfl
    have p1 := kp.cell 1 rfl
    have p2 := kp.cell 2 rfl
    have p3 := kp.cell 3 rfl
    have p4 := kp.cell 4 rfl
    have o0 := ko.cell 0 rfl
    have o1 := ko.cell 1 rfl
    have o2 := ko.cell 2 rfl
    clear hd kp ko
    go_wp2_with fail
    refine (implOpValid_any v p o _ (HRP.out.below HD.out) zz.out).mono ?_
    rintro e w1 ⟨rfl, hb1⟩
    rw [HV.out]
    have hb := HD.out.trans (hb1.mono HD.out.size)
    have hB1 := hB.trans (hb.mono hB.size)
    clear hb1 o0 o1 o2 p0 p1 p2 p3 p4
    go_wp2
    go_ret
    exact ⟨rfl, hB1, by simp⟩
  have HN : Hid (putRes p na i o = some (p.thr (p.threads.set na ((p.threads.getD na []).insertIdx i o)))) := Lib.hid (by unfold putRes; rw [Int.toNat_natCast, Int.toNat_natCast, if_pos ⟨by omega, by rw [← HM.out]; omega, hv, by rw [← HM.out]; omega⟩])
  rw [HN.out]
  have HV := Lib.hid hv
  have t2 : decide ((8 : Int) ≤ (m : Int)) = false := by simp; omega
  clear hv
  go_enter Try.func54, Try.ntmps54
  go_wp2
  go_quiet (fail)
  obtain ⟨W0, hW0⟩ : ∃ W0 : World, W0 = W.drewN nq := ⟨_, rfl⟩
  have hd : Below W.heap.size W (W.drewN nq) := below_drewN' _ _
  rw [← hW0] at hd ⊢
  clear hW0
  have hBd := hB.trans (hd.mono hB.size)
  have ca := keepc hd ca
  have cb := keepc hd cb
  have e4 := keepc hd e4
  have kp := HKP.out.below hd
  have ko := HKO.out.below hd
  have HD := Lib.hid hd
  have p0 := kp.cell 0 rfl
  have p1 := kp.cell 1 rfl
  have p2 := kp.cell 2 rfl
  have p3 := kp.cell 3 rfl
  have p4 := kp.cell 4 rfl
  have o0 := ko.cell 0 rfl
  have o1 := ko.cell 1 rfl
  have o2 := ko.cell 2 rfl
  clear hd kp ko
  go_wp2_with fail
  refine (implOpValid_any v p o _ (HRP.out.below HD.out) zz.out).mono ?_
  rintro e w1 ⟨rfl, hb1⟩
  rw [HV.out]
  have hb := HD.out.trans (hb1.mono HD.out.size)
  have hB1 := hB.trans (hb.mono hB.size)
  clear hb1 o0 o1 o2 p0 p1 p2 p3 p4
  go_wp2
  obtain ⟨W1, hW1⟩ : ∃ W1 : World, W1 = w1 := ⟨_, rfl⟩
  rw [← hW1] at hb hB1 ⊢
  clear hW1 w1
  have ca := keepc hb HCA.out
  have cb := keepc hb HCB.out
  have e4 := keepc hb HE4.out
  have ko := HKO.out.below hb
  have o0 := ko.cell 0 rfl
  have o1 := ko.cell 1 rfl
  have o2 := ko.cell 2 rfl
  have kQ1 := HK.out.below hb
  have HK1 := Lib.hid kQ1
  have HO1 := Lib.hid (HO.out.below hb)
  have HR1 := Lib.hid (owns_below HROW.out hb)
  have HOT1 := Lib.hid (owns_below HOT.out hb)
  have hsz1 := hb.size
  clear hb kQ1 ko
  refine wp_region_steps 10 (by kernel_rfl) (by kernel_rfl) [fun dz uz wz => uz = .pointer (some ⟨Bq, 0, none⟩), fun dz uz wz => uz = .pointer (some ⟨Bq, 0, none⟩), fun dz uz wz => uz = .pointer (some ⟨Bq, 4, none⟩), fun dz uz wz => uz = .slice (some ⟨T, 0, none⟩) u.nt u.ct, fun dz uz wz => uz = .int .i64 na, fun dz uz wz => uz = .slice xa m xc, fun dz uz wz => uz = .int .i64 i, fun dz uz wz => uz = .agg #[.int .i64 o.kind, .int .i64 o.on, .int .i64 o.arg], fun dz uz wz => (∃ gz : Nat, uz = .slice (some ⟨gz, 0, none⟩) 1 1 ∧ Blk wz gz #[.int .i64 o.kind, .int .i64 o.on, .int .i64 o.arg] 44 ∧ W1.heap.size ≤ gz), fun dz uz wz => (∃ (a' : Option Addr) (c' : Nat), uz = .slice a' (m + 1) c' ∧ wz.ownsRow 0 44 3 (.slice a' (m + 1) c') (m + 1) (opsV ((p.threads.getD na []).insertIdx i o)) ∧ W1.grownBy wz (rowOf xa))] (St1 9 (Touch (rowOf xa).toList)) (fun _ _ => none) (Stage 9 (rowOf xa).toList W1) (Stage.start _ _ _) (st1_size (fun _ _ h => h.size)) (stab1_of ⟨fun _ _ _ _ _ h => h, fun _ _ _ _ _ h => h, fun _ _ _ _ _ h => h, fun _ _ _ _ _ h => h, fun _ _ _ _ _ h => h, fun _ _ _ _ _ h => h, fun _ _ _ _ _ h => h, fun _ _ _ _ _ h => h, fun _ _ _ _ hb ⟨g, e, h, hs⟩ => ⟨g, e, h.below hb, hs⟩, fun _ _ _ _ hb ⟨a, c, e, h, g⟩ => ⟨a, c, e, owns_below h hb, grown_trans g (grown_below hb)⟩, trivial⟩ ⟨.inr (fun _ _ _ _ _ h => h), .inr (fun _ _ _ _ _ h => h), .inr (fun _ _ _ _ _ h => h), .inr (fun _ _ _ _ _ h => h), .inr (fun _ _ _ _ _ h => h), .inr (fun _ _ _ _ _ h => h), .inr (fun _ _ _ _ _ h => h), .inr (fun _ _ _ _ _ h => h), .inr (fun _ _ _ _ hT ⟨g, e, h, hs⟩ => ⟨g, e, (hT.block g h.lt (fun hm => by have := HXL.out g (by simpa using hm); omega)).trans h, hs⟩), .inl rfl, trivial⟩) ?_ ?_
  · simp only [List.take_succ_cons, List.take_zero]
    refine ⟨?_, ?_, ?_, ?_, ?_, ?_, ?_, ?_, ?_, ?_, trivial⟩
    · intro ρ w1 L hG hny hfr hd
      have fc : ∀ z, ρ (.const z) = z := fun _ => hfr _ rfl
      have ff : ∀ z, ρ (.func z) = .func (.func z) #[] #[] := fun _ => hfr _ rfl
      have f0 : ρ (.tmp 0) = .pointer (some ⟨Bq, 0, none⟩) := hfr _ rfl
      refine gives_val (u := .pointer (some ⟨Bq, 0, none⟩)) (w' := w1) (by go_simp) ⟨st1_below (by decide) (Below.refl _ _), rfl, (fun _ hk => by cases hk), hG.step (by decide) (Below.refl _ _)⟩
    · intro ρ w1 L hG hny hfr hd
      have fc : ∀ z, ρ (.const z) = z := fun _ => hfr _ rfl
      have ff : ∀ z, ρ (.func z) = .func (.func z) #[] #[] := fun _ => hfr _ rfl
      obtain ⟨d0, -⟩ := hd
      have d0 : (ρ (.tmp 34)) = .pointer (some ⟨Bq, 0, none⟩) := d0
      refine gives_val (u := .pointer (some ⟨Bq, 0, none⟩)) (w' := w1) (by go_simp) ⟨st1_below (by decide) (Below.refl _ _), rfl, (fun _ hk => by cases hk), hG.step (by decide) (Below.refl _ _)⟩
    · intro ρ w1 L hG hny hfr hd
      have fc : ∀ z, ρ (.const z) = z := fun _ => hfr _ rfl
      have ff : ∀ z, ρ (.func z) = .func (.func z) #[] #[] := fun _ => hfr _ rfl
      obtain ⟨d0, -⟩ := hd
      have d0 : (ρ (.tmp 35)) = .pointer (some ⟨Bq, 0, none⟩) := d0
      refine gives_val (u := .pointer (some ⟨Bq, 4, none⟩)) (w' := w1) (by go_simp) ⟨st1_below (by decide) (Below.refl _ _), rfl, (fun _ hk => by cases hk), hG.step (by decide) (Below.refl _ _)⟩
    · intro ρ w1 L hG hny hfr hd
      have fc : ∀ z, ρ (.const z) = z := fun _ => hfr _ rfl
      have ff : ∀ z, ρ (.func z) = .func (.func z) #[] #[] := fun _ => hfr _ rfl
      obtain ⟨d0, -⟩ := hd
      have d0 : (ρ (.tmp 36)) = .pointer (some ⟨Bq, 4, none⟩) := d0
      have e4 := cell_touch hG.2 e4 (hXQ)
      refine gives_val (u := .slice (some ⟨T, 0, none⟩) u.nt u.ct) (w' := w1) (by go_simp) ⟨st1_below (by decide) (Below.refl _ _), rfl, (fun _ hk => by cases hk), hG.step (by decide) (Below.refl _ _)⟩
    · intro ρ w1 L hG hny hfr hd
      have fc : ∀ z, ρ (.const z) = z := fun _ => hfr _ rfl
      have ff : ∀ z, ρ (.func z) = .func (.func z) #[] #[] := fun _ => hfr _ rfl
      have f1 : ρ (.tmp 1) = .pointer (some ⟨ba, 0, none⟩) := hfr _ rfl
      have ca := cell_touch hG.2 ca (hXa)
      refine gives_val (u := .int .i64 na) (w' := w1) (by go_simp) ⟨st1_below (by decide) (Below.refl _ _), rfl, (fun _ hk => by cases hk), hG.step (by decide) (Below.refl _ _)⟩
    · intro ρ w1 L hG hny hfr hd
      have fc : ∀ z, ρ (.const z) = z := fun _ => hfr _ rfl
      have ff : ∀ z, ρ (.func z) = .func (.func z) #[] #[] := fun _ => hfr _ rfl
      have f7 : ρ (.tmp 7) = .slice xa m xc := hfr _ rfl
      refine gives_val (u := .slice xa m xc) (w' := w1) (by go_simp) ⟨st1_below (by decide) (Below.refl _ _), rfl, (fun _ hk => by cases hk), hG.step (by decide) (Below.refl _ _)⟩
    · intro ρ w1 L hG hny hfr hd
      have fc : ∀ z, ρ (.const z) = z := fun _ => hfr _ rfl
      have ff : ∀ z, ρ (.func z) = .func (.func z) #[] #[] := fun _ => hfr _ rfl
      have f2 : ρ (.tmp 2) = .pointer (some ⟨bb, 0, none⟩) := hfr _ rfl
      have cb := cell_touch hG.2 cb (hXb)
      refine gives_val (u := .int .i64 i) (w' := w1) (by go_simp) ⟨st1_below (by decide) (Below.refl _ _), rfl, (fun _ hk => by cases hk), hG.step (by decide) (Below.refl _ _)⟩
    · intro ρ w1 L hG hny hfr hd
      have fc : ∀ z, ρ (.const z) = z := fun _ => hfr _ rfl
      have ff : ∀ z, ρ (.func z) = .func (.func z) #[] #[] := fun _ => hfr _ rfl
      have f4 : ρ (.tmp 4) = .pointer (some ⟨bo, 0, none⟩) := hfr _ rfl
      have o0 := cell_touch hG.2 o0 (hXo)
      have o1 := cell_touch hG.2 o1 (hXo)
      have o2 := cell_touch hG.2 o2 (hXo)
      refine gives_val (u := .agg #[.int .i64 o.kind, .int .i64 o.on, .int .i64 o.arg]) (w' := w1) (by go_simp) ⟨st1_below (by decide) (Below.refl _ _), rfl, (fun _ hk => by cases hk), hG.step (by decide) (Below.refl _ _)⟩
    · intro ρ w1 L hG hny hfr hd
      have fc : ∀ z, ρ (.const z) = z := fun _ => hfr _ rfl
      have ff : ∀ z, ρ (.func z) = .func (.func z) #[] #[] := fun _ => hfr _ rfl
      obtain ⟨d0, -⟩ := hd
      have d0 : (ρ (.tmp 41)) = .agg #[.int .i64 o.kind, .int .i64 o.on, .int .i64 o.arg] := d0
      refine gives_val (u := .slice (some ⟨w1.heap.size, 0, none⟩) 1 1) (w' := w1.alloc (.cells #[.int .i64 o.kind, .int .i64 o.on, .int .i64 o.arg] 44)) (by go_simp) ⟨st1_below (by decide) ((Below.refl _ _).alloc (Nat.le_refl _) _), ⟨_, rfl, Blk.new _ _ _, hG.2.size⟩, (fun _ hk => by cases hk), hG.step (by decide) ((Below.refl _ _).alloc (Nat.le_refl _) _)⟩
    · intro ρ w1 L hG hny hfr hd
      have fc : ∀ z, ρ (.const z) = z := fun _ => hfr _ rfl
      have ff : ∀ z, ρ (.func z) = .func (.func z) #[] #[] := fun _ => hfr _ rfl
      obtain ⟨d0, d1, d2, -⟩ := hd
      have d0 : (ρ (.tmp 39)) = .slice xa m xc := d0
      have d1 : (ρ (.tmp 40)) = .int .i64 i := d1
      have d2 : (∃ gz : Nat, (ρ (.tmp 42)) = .slice (some ⟨gz, 0, none⟩) 1 1 ∧ Blk w1 gz #[.int .i64 o.kind, .int .i64 o.on, .int .i64 o.arg] 44 ∧ W1.heap.size ≤ gz) := d2
      have hL := hny 9 _ rfl (by kernel_rfl)
      have hbe := hG.1 hL
      have ho := owns_below HR1.out hbe
      obtain ⟨gz, d2, hgz, hgs⟩ := d2
      refine gives_call (by go_simp; exact ⟨⟨rfl, rfl⟩, rfl⟩) ?_
      refine (insertOps_any xa m xc i gz 1 (p.threads.getD na []) o w1 ho (by omega) hi hgz (fun e => by have := HXL.out gz e; omega)).mono ?_
      rintro e w2 ⟨a', c', rfl, ho2, hg2⟩
      have hT : Touch (rowOf xa).toList w1 w2 := Touch.of_grown hg2 (fun q hq => by simpa using hq)
      exact ⟨_, rfl, st1_own hT, ⟨a', c', rfl, ho2, grown_trans (grown_below hbe) hg2⟩, (fun _ hk => by cases hk), hG.own hT⟩
  intro vs w2 L hG hlen hall hap hbd
  obtain ⟨xv0, vs0, rfl, hl0⟩ := len_cons hlen
  obtain ⟨xv1, vs1, rfl, hl1⟩ := len_cons hl0
  obtain ⟨xv2, vs2, rfl, hl2⟩ := len_cons hl1
  obtain ⟨xv3, vs3, rfl, hl3⟩ := len_cons hl2
  obtain ⟨xv4, vs4, rfl, hl4⟩ := len_cons hl3
  obtain ⟨xv5, vs5, rfl, hl5⟩ := len_cons hl4
  obtain ⟨xv6, vs6, rfl, hl6⟩ := len_cons hl5
  obtain ⟨xv7, vs7, rfl, hl7⟩ := len_cons hl6
  obtain ⟨xv8, vs8, rfl, hl8⟩ := len_cons hl7
  obtain ⟨xv9, vs9, rfl, hl9⟩ := len_cons hl8
  obtain rfl := len_nil hl9
  clear hlen hl0 hl1 hl2 hl3 hl4 hl5 hl6 hl7 hl8 hl9
  simp only [List.take_succ_cons, List.take_zero, List.drop_succ_cons, List.drop_zero] at hall ⊢
  obtain ⟨t0', t1', t2', t3', t4', t5', t6', t7', t8', t9', -⟩ := hall
  have hv0 : xv0 = .pointer (some ⟨Bq, 0, none⟩) := t0'
  have hv1 : xv1 = .pointer (some ⟨Bq, 0, none⟩) := t1'
  have hv2 : xv2 = .pointer (some ⟨Bq, 4, none⟩) := t2'
  have hv3 : xv3 = .slice (some ⟨T, 0, none⟩) u.nt u.ct := t3'
  have hv4 : xv4 = .int .i64 na := t4'
  have hv5 : xv5 = .slice xa m xc := t5'
  have hv6 : xv6 = .int .i64 i := t6'
  have hv7 : xv7 = .agg #[.int .i64 o.kind, .int .i64 o.on, .int .i64 o.arg] := t7'
  have hv8 : (∃ gz : Nat, xv8 = .slice (some ⟨gz, 0, none⟩) 1 1 ∧ Blk w2 gz #[.int .i64 o.kind, .int .i64 o.on, .int .i64 o.arg] 44 ∧ W1.heap.size ≤ gz) := t8'
  have hv9 : (∃ (a' : Option Addr) (c' : Nat), xv9 = .slice a' (m + 1) c' ∧ w2.ownsRow 0 44 3 (.slice a' (m + 1) c') (m + 1) (opsV ((p.threads.getD na []).insertIdx i o)) ∧ W1.grownBy w2 (rowOf xa)) := t9'
  clear t0' t1' t2' t3' t4' t5' t6' t7' t8' t9'
  clear hap hbd
  subst hv0 hv1 hv2 hv3 hv4 hv5 hv6 hv7
  simp only [putAll, Act.put, List.setIfInBounds_toArray, List.set_cons_succ, List.set_cons_zero]
  obtain ⟨a', c', rfl, hrow, hg⟩ := hv9
  obtain ⟨gz, rfl, -, -⟩ := hv8
  have kQ2 : Blk w2 Bq _ _ := (hG.2.block Bq HK1.out.lt hXQ).trans HK1.out
  have hot2 := owns_grown HOT1.out hg (fun q h1 h2 => hXT (by simp [rowOf] at h1; rw [h2]; simp [h1]))
  have hvl := HO.out.ot.vlen
  have fa := hot2.frozenAt na
  have gT : w2.cell? ⟨T, na, none⟩ = some (.slice xa m xc) := by rw [hot2.cellAt na (by omega), ← EXA.out]; simp [List.getD, hvl, hna]
  have HROW2 := Lib.hid hrow
  have HG2 := Lib.hid hg
  have HG := Lib.hid hG.2
  have HKQ := Lib.hid kQ2
  clear hG hrow hg kQ2 hot2 hvl
  go_wp2
  go_ret
  have hB2 : Touch ((rowOf xa).toList ++ [T]) W1 (w2.setCell ⟨T, na, none⟩ (.slice a' (m + 1) c')) := (HG.out.mono (fun q hq => by simp at hq; simp [hq])).set (by simp)
  refine ⟨rfl, hB1.trans (hB2.below hB1.size (fun q hq => ?_)), fun p' hp' => ?_⟩
  · rcases List.mem_append.1 hq with hq | hq
    · exact HHX.out q (by simpa using hq)
    · obtain rfl := List.mem_singleton.1 hq
      exact hHT
  obtain rfl : p.thr (p.threads.set na ((p.threads.getD na []).insertIdx i o)) = p' := by simpa using hp'
  have hfin := ownP_row HO1.out (fpP_rows HND.out) eT hna EXA.out HG2.out HROW2.out
  exact ⟨u, HKQ.out.other ⟨T, na, none⟩ _ hQT, hfin.rd⟩

theorem putRes_ok {p : Pg} {t x : Int} {o : OpD} (hs : SmallP p) (h0 : 0 ≤ t) (h1 : t < p.threads.length) : ∀ p', putRes p t x o = some p' → SmallP p' ∧ 0 < p'.threads.length := by
  intro p' h
  unfold putRes at h
  split at h
  · next hc =>
    obtain rfl : p.thr (p.threads.set t.toNat ((p.threads.getD t.toNat []).insertIdx x.toNat o)) = p' := by simpa using h
    have h2 := hs.lt
    refine ⟨hs.thr (by simp; omega) (fun i => ?_), by show 0 < (p.threads.set t.toNat _).length; simp; omega⟩
    rw [getD_set_op _ _ _ _ (by omega)]
    split
    · rw [List.length_insertIdx]
      split <;> omega
    · exact hs.inn i
  · cases h

set_option maxRecDepth 100000 in
set_option maxHeartbeats 4000000 in
theorem implPutOp_any (v : PV) (p : Pg) (a b : Int) (o : OpD) (w : World) (hr : RdP w v p) (hz : Small v p) :
    Calls Try.prog 20 #[.agg #[.slice v.s v.ns v.cs, .slice v.g v.ng v.cg, .slice v.b v.nb v.cb, .slice v.r v.nr v.cr, .slice v.t v.nt v.ct], .int .i64 a, .int .i64 b, .agg #[.int .i64 o.kind, .int .i64 o.on, .int .i64 o.arg]] w fun e w' => ∃ (u : PV) (us : List Value), e = .returned (.tuple #[.agg #[.slice u.s u.ns u.cs, .slice u.g u.ng u.cg, .slice u.b u.nb u.cb, .slice u.r u.nr u.cr, .slice u.t u.nt u.ct], .bool (putOp p a b o).isSome]) ∧ OwnP w' u us ((putOp p a b o).getD noPg).cells ∧ (fpP u us).Nodup ∧ (∀ k ∈ fpP u us, w.heap.size ≤ k) ∧ Below w.heap.size w w' := by
  have hsd := hz.data hr
  have HSD := Lib.hid hsd
  have hmf : ∀ (fn : Fn) (first cap : Array Value) (w : World), (Instr.makeFunc fn first cap).run Try.prog w = .ok (.func fn first cap) w := fun _ _ _ _ => rfl
  obtain ⟨W0, hW0⟩ : ∃ W0 : World, W0 = (((((w.alloc (.cells #[.slice v.s v.ns v.cs, .slice v.g v.ng v.cg, .slice v.b v.nb v.cb, .slice v.r v.nr v.cr, .slice v.t v.nt v.ct] 26)).alloc (.cells #[.int .i64 a] 3)).alloc (.cells #[.int .i64 b] 3)).alloc (.cells #[.int .i64 o.kind, .int .i64 o.on, .int .i64 o.arg] 44)).alloc (.cells #[.slice none 0 0, .slice none 0 0, .slice none 0 0, .slice none 0 0, .slice none 0 0] 26)) := ⟨_, rfl⟩
  have b0 : Below w.heap.size w (((((w.alloc (.cells #[.slice v.s v.ns v.cs, .slice v.g v.ng v.cg, .slice v.b v.nb v.cb, .slice v.r v.nr v.cr, .slice v.t v.nt v.ct] 26)).alloc (.cells #[.int .i64 a] 3)).alloc (.cells #[.int .i64 b] 3)).alloc (.cells #[.int .i64 o.kind, .int .i64 o.on, .int .i64 o.arg] 44)).alloc (.cells #[.slice none 0 0, .slice none 0 0, .slice none 0 0, .slice none 0 0, .slice none 0 0] 26)) := ((((((Below.refl _ _).alloc (Nat.le_refl _) _).alloc (by simp) _).alloc (by simp; omega) _).alloc (by simp; omega) _).alloc (by simp; omega) _)
  have k0 : Blk (((((w.alloc (.cells #[.slice v.s v.ns v.cs, .slice v.g v.ng v.cg, .slice v.b v.nb v.cb, .slice v.r v.nr v.cr, .slice v.t v.nt v.ct] 26)).alloc (.cells #[.int .i64 a] 3)).alloc (.cells #[.int .i64 b] 3)).alloc (.cells #[.int .i64 o.kind, .int .i64 o.on, .int .i64 o.arg] 44)).alloc (.cells #[.slice none 0 0, .slice none 0 0, .slice none 0 0, .slice none 0 0, .slice none 0 0] 26)) w.heap.size #[.slice v.s v.ns v.cs, .slice v.g v.ng v.cg, .slice v.b v.nb v.cb, .slice v.r v.nr v.cr, .slice v.t v.nt v.ct] 26 := ((((Blk.new _ _ _).alloc _).alloc _).alloc _).alloc _
  have k1 : Blk (((((w.alloc (.cells #[.slice v.s v.ns v.cs, .slice v.g v.ng v.cg, .slice v.b v.nb v.cb, .slice v.r v.nr v.cr, .slice v.t v.nt v.ct] 26)).alloc (.cells #[.int .i64 a] 3)).alloc (.cells #[.int .i64 b] 3)).alloc (.cells #[.int .i64 o.kind, .int .i64 o.on, .int .i64 o.arg] 44)).alloc (.cells #[.slice none 0 0, .slice none 0 0, .slice none 0 0, .slice none 0 0, .slice none 0 0] 26)) (w.heap.size + 1) #[.int .i64 a] 3 := by simpa using (((Blk.new (w.alloc (.cells #[.slice v.s v.ns v.cs, .slice v.g v.ng v.cg, .slice v.b v.nb v.cb, .slice v.r v.nr v.cr, .slice v.t v.nt v.ct] 26)) #[.int .i64 a] 3).alloc _).alloc _).alloc _
  have k2 : Blk (((((w.alloc (.cells #[.slice v.s v.ns v.cs, .slice v.g v.ng v.cg, .slice v.b v.nb v.cb, .slice v.r v.nr v.cr, .slice v.t v.nt v.ct] 26)).alloc (.cells #[.int .i64 a] 3)).alloc (.cells #[.int .i64 b] 3)).alloc (.cells #[.int .i64 o.kind, .int .i64 o.on, .int .i64 o.arg] 44)).alloc (.cells #[.slice none 0 0, .slice none 0 0, .slice none 0 0, .slice none 0 0, .slice none 0 0] 26)) (w.heap.size + 1 + 1) #[.int .i64 b] 3 := by simpa using ((Blk.new ((w.alloc (.cells #[.slice v.s v.ns v.cs, .slice v.g v.ng v.cg, .slice v.b v.nb v.cb, .slice v.r v.nr v.cr, .slice v.t v.nt v.ct] 26)).alloc (.cells #[.int .i64 a] 3)) #[.int .i64 b] 3).alloc _).alloc _
  have k3 : Blk (((((w.alloc (.cells #[.slice v.s v.ns v.cs, .slice v.g v.ng v.cg, .slice v.b v.nb v.cb, .slice v.r v.nr v.cr, .slice v.t v.nt v.ct] 26)).alloc (.cells #[.int .i64 a] 3)).alloc (.cells #[.int .i64 b] 3)).alloc (.cells #[.int .i64 o.kind, .int .i64 o.on, .int .i64 o.arg] 44)).alloc (.cells #[.slice none 0 0, .slice none 0 0, .slice none 0 0, .slice none 0 0, .slice none 0 0] 26)) (w.heap.size + 1 + 1 + 1) #[.int .i64 o.kind, .int .i64 o.on, .int .i64 o.arg] 44 := by simpa using (Blk.new (((w.alloc (.cells #[.slice v.s v.ns v.cs, .slice v.g v.ng v.cg, .slice v.b v.nb v.cb, .slice v.r v.nr v.cr, .slice v.t v.nt v.ct] 26)).alloc (.cells #[.int .i64 a] 3)).alloc (.cells #[.int .i64 b] 3)) #[.int .i64 o.kind, .int .i64 o.on, .int .i64 o.arg] 44).alloc _
  have kR : Blk (((((w.alloc (.cells #[.slice v.s v.ns v.cs, .slice v.g v.ng v.cg, .slice v.b v.nb v.cb, .slice v.r v.nr v.cr, .slice v.t v.nt v.ct] 26)).alloc (.cells #[.int .i64 a] 3)).alloc (.cells #[.int .i64 b] 3)).alloc (.cells #[.int .i64 o.kind, .int .i64 o.on, .int .i64 o.arg] 44)).alloc (.cells #[.slice none 0 0, .slice none 0 0, .slice none 0 0, .slice none 0 0, .slice none 0 0] 26)) (w.heap.size + 1 + 1 + 1 + 1) #[.slice none 0 0, .slice none 0 0, .slice none 0 0, .slice none 0 0, .slice none 0 0] 26 := by simpa using Blk.new ((((w.alloc (.cells #[.slice v.s v.ns v.cs, .slice v.g v.ng v.cg, .slice v.b v.nb v.cb, .slice v.r v.nr v.cr, .slice v.t v.nt v.ct] 26)).alloc (.cells #[.int .i64 a] 3)).alloc (.cells #[.int .i64 b] 3)).alloc (.cells #[.int .i64 o.kind, .int .i64 o.on, .int .i64 o.arg] 44)) #[.slice none 0 0, .slice none 0 0, .slice none 0 0, .slice none 0 0, .slice none 0 0] 26
  have HW0 := Lib.hid hW0
  rw [← hW0] at b0 k0 k1 k2 k3 kR
  clear hW0
  have q0 := k0.cell 0 rfl
  have q1 := k0.cell 1 rfl
  have q2 := k0.cell 2 rfl
  have q3 := k0.cell 3 rfl
  have q4 := k0.cell 4 rfl
  have c1 := k1.cell 0 rfl
  have c2 := k2.cell 0 rfl
  have c3 := k3.cell 0 rfl
  have hW := kR.lt
  have lt := Lib.hid hr.lt
  clear hsd
  go_enter Try.func20, Try.ntmps20
  go_wp2_with fail
  rw [← HW0.out]
  refine (change_any 54 #[.pointer (some ⟨w.heap.size + 1, 0, none⟩), .pointer (some ⟨w.heap.size + 1 + 1, 0, none⟩), .pointer (some ⟨w.heap.size, 0, none⟩), .pointer (some ⟨w.heap.size + 1 + 1 + 1, 0, none⟩)] v p a (putRes p a b o) _ (enters_of Try.func54 (by kernel_rfl) rfl) (hr.below b0) hz
    (fun hv h0 h1 H hH => putFn_any v p a b o H _ _ _ _ (keepc hH c1) (keepc hH c2) (k0.below hH) (k3.below hH) (hr.below (b0.trans (hH.mono b0.size))) hz h0 h1 HSD.out) (fun hv h0 h1 p' hp' => putRes_ok HSD.out h0 h1 p' hp')).mono ?_
  rintro e w1 ⟨u, us, rfl, ou, hnd, hfr, hb⟩
  have kR1 := kR.below hb
  have BE := b0.trans (hb.mono b0.size)
  have HO := Lib.hid ou
  have HFR := Lib.hid hfr
  have y0 := kR1.cell 0 rfl
  have x0 := kR1.fz 0
  have y1 := kR1.cell 1 rfl
  have x1 := kR1.fz 1
  have y2 := kR1.cell 2 rfl
  have x2 := kR1.fz 2
  have y3 := kR1.cell 3 rfl
  have x3 := kR1.fz 3
  have y4 := kR1.cell 4 rfl
  have x4 := kR1.fz 4
  clear ou hfr q0 q1 q2 q3 q4 c1 c2 c3 k0 k1 k2 k3 kR kR1
  go_wp2
  refine bodyPost_ret (v := .tuple #[.agg #[.slice u.s u.ns u.cs, .slice u.g u.ng u.cg, .slice u.b u.nb u.cb, .slice u.r u.nr u.cr, .slice u.t u.nt u.ct], .bool (putOp p a b o).isSome]) (by simp [results, Try.results20, go_sem, y0, y1, y2, y3, y4, putOp]) rfl ⟨u, us, rfl, ?_, hnd, fun q hq => Nat.le_trans b0.size (HFR.out q hq), ?_⟩
  · refine HO.out.touch (S := [w.heap.size + 1 + 1 + 1 + 1]) ?_ (fun q hq hm => by have := HFR.out q hq; simp at hm; omega)
    exact Touch.set (Touch.set (Touch.set (Touch.set (Touch.set (Touch.refl _ _) (by simp)) (by simp)) (by simp)) (by simp)) (by simp)
  · exact ((((BE.setCell (by simp; omega) _).setCell (by simp; omega) _).setCell (by simp; omega) _).setCell (by simp; omega) _).setCell (by simp; omega) _

end Go.Proofs.Ytnobkdkfhgjeeab
