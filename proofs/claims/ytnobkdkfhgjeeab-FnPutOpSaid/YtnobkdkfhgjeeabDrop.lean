/- DropOp: the program's own text. -/
import Derived.Test.YtnobkdkfhgjeeabDropKit
import Derived.Test.YtnobkdkfhgjeeabRowKit
import Derived.Deep.QuietTactic
import Derived.BigQuiet
namespace Go.Proofs.Ytnobkdkfhgjeeab
open Go.RowKit

set_option maxRecDepth 100000 in
set_option maxHeartbeats 4000000 in
theorem dropFn_any (p : Pg) (t x : Int) (H : World) (ba bb : Nat) (ha : H.cell? ⟨ba, 0, none⟩ = some (.int .i64 t)) (hb : H.cell? ⟨bb, 0, none⟩ = some (.int .i64 x)) (h0 : 0 ≤ t) (h1 : t < p.threads.length) (hsm : SmallP p) :
    Changes H 66 #[.pointer (some ⟨ba, 0, none⟩), .pointer (some ⟨bb, 0, none⟩)] p (dropRes p t x) := by
  intro u us W Bq hB hq hO hnd hfr kQ
  have hnt : p.threads.length = u.nt := by have := hO.ot.len; simpa [Pg.cells] using this
  have ca := keepc hB ha
  have cb := keepc hB hb
  have e4 := kQ.cell 4 rfl
  have hA := ha
  have hB' := hb
  clear ha hb
  obtain ⟨na, rfl⟩ := Int.eq_ofNat_of_zero_le h0
  have hna : na < u.nt := by omega
  obtain ⟨T, eT, hT1, hT2⟩ := owns_at hO.ot.out (by omega)
  obtain ⟨xa, xc, exa, hrow⟩ := hO.row hna
  have hml : (p.threads.getD na []).length ≤ 1048576 := hsm.inn na
  have hnl := hsm.lt
  obtain ⟨m, hm⟩ : ∃ m, m = (p.threads.getD na []).length := ⟨_, rfl⟩
  rw [← hm] at exa hrow hml
  have HM := Lib.hid hm
  clear hm
  have hot := hO.ot.out
  rw [eT] at hot e4
  have hvl := hO.ot.vlen
  have ga : W.cell? ⟨T, na, none⟩ = some (.slice xa m xc) := by rw [hot.cellAt na (by omega), ← exa]; simp [List.getD, hvl, hna]
  have i0 : (0 : Int) ≤ (na : Int) := by omega
  have i1 : (na : Int) < u.nt := by omega
  have EXA := Lib.hid exa
  have HROW := Lib.hid hrow
  have HNT := Lib.hid hnt
  have HO := Lib.hid hO
  have HND := Lib.hid hnd
  have HOT := Lib.hid hot
  have HK := Lib.hid kQ
  clear exa hrow hnt hnd hvl h0 h1
  by_cases hx0 : x < 0
  · have HN : Hid (dropRes p na x = none) := Lib.hid (by unfold dropRes; rw [if_neg (by omega)])
    rw [HN.out]
    have t0 : decide (x < 0) = true := decide_eq_true hx0
    clear hO hot hA hB' hsm
    go_enter Try.func66, Try.ntmps66
    go_wp2
    go_quiet (fail)
    go_wp2
    go_ret
    exact ⟨rfl, hB.trans ((below_drewN' _ _).mono hB.size), by simp⟩
  by_cases hx1 : (m : Int) ≤ x
  · have HN : Hid (dropRes p na x = none) := Lib.hid (by unfold dropRes; rw [if_neg (by rw [Int.toNat_natCast, ← HM.out]; omega)])
    rw [HN.out]
    have t0 : decide (x < 0) = false := decide_eq_false hx0
    have t1 : decide ((m : Int) ≤ x) = true := decide_eq_true hx1
    clear hO hot hA hB' hsm
    go_enter Try.func66, Try.ntmps66
    go_wp2
    go_quiet (fail)
    go_wp2
    go_ret
    exact ⟨rfl, hB.trans ((below_drewN' _ _).mono hB.size), by simp⟩
  have HN : Hid (dropRes p na x = some (p.thr (p.threads.set na ((p.threads.getD na []).eraseIdx x.toNat)))) := Lib.hid (by unfold dropRes; rw [Int.toNat_natCast, if_pos (by rw [← HM.out]; omega)])
  rw [HN.out]
  have t0 : decide (x < 0) = false := decide_eq_false hx0
  have t1 : decide ((m : Int) ≤ x) = false := decide_eq_false hx1
  obtain ⟨i, rfl⟩ := Int.eq_ofNat_of_zero_le (show 0 ≤ x by omega)
  obtain ⟨n, rfl⟩ : ∃ n, m = n + 1 := ⟨m - 1, by omega⟩
  obtain ⟨X, rfl, hX1, hX2⟩ := owns_at HROW.out (by omega)
  have hHX : H.heap.size ≤ X := hfr X (mem_fp_row (x := us.getD na undef) (by
    have hvl := hO.ot.vlen
    rw [List.getD_eq_getElem?_getD, List.getElem?_eq_getElem (by omega)]; simp) (by rw [EXA.out]; rfl))
  have hHT : H.heap.size ≤ T := hfr T (by unfold fpP fpT; rw [eT]; simp [rowOf])
  have hXT : T ≠ X := fun e => owns_owns hot HROW.out types_ne.2.1.symm T rfl (by rw [e]; rfl)
  have hXQ : Bq ≠ X := fun e => blk_owns kQ HROW.out types_ne.2.2.2.2.1 (by rw [e]; rfl)
  have hQT : Bq ≠ T := fun e => blk_owns kQ hot types_ne.2.2.2.1 (by rw [e]; rfl)
  have hXa : ba ≠ X := by have := World.block_lt_of_cell? _ _ hA; simp only at this; omega
  have hXb : bb ≠ X := by have := World.block_lt_of_cell? _ _ hB'; simp only at this; omega
  have hwr : IntKind.i64.wrap ((i : Int) + 1) = (i : Int) + 1 := Go.IntWalk.i64_in _ (by omega)
  have hi : i ≤ n := by omega
  clear hO hot hA hB' hsm kQ hfr hx0 hx1
  go_enter Try.func66, Try.ntmps66
  go_wp2
  go_quiet (fail)
  go_wp2
  obtain ⟨W1, hW1⟩ : ∃ W1 : World, W1 = W.drewN nq := ⟨_, rfl⟩
  have hd : Below W.heap.size W (W.drewN nq) := below_drewN' _ _
  rw [← hW1] at hd ⊢
  clear hW1
  replace ca := keepc hd ca
  replace cb := keepc hd cb
  replace e4 := keepc hd e4
  replace ga := keepc hd ga
  have kQ1 := HK.out.below hd
  have HK1 := Lib.hid kQ1
  have HO1 := Lib.hid (HO.out.below hd)
  have HR1 := Lib.hid (owns_below HROW.out hd)
  have HOT1 := Lib.hid (owns_below HOT.out hd)
  have hBd := hB.trans (hd.mono hB.size)
  clear hd kQ1
  refine wp_region_steps 10 (by kernel_rfl) (by kernel_rfl) [fun dz uz wz => uz = .pointer (some ⟨Bq, 0, none⟩), fun dz uz wz => uz = .pointer (some ⟨Bq, 0, none⟩), fun dz uz wz => uz = .pointer (some ⟨Bq, 4, none⟩), fun dz uz wz => uz = .slice (some ⟨T, 0, none⟩) u.nt u.ct, fun dz uz wz => uz = .int .i64 na, fun dz uz wz => uz = .slice (some ⟨X, 0, none⟩) (n + 1) xc, fun dz uz wz => uz = .int .i64 i, fun dz uz wz => uz = .int .i64 i, fun dz uz wz => uz = .int .i64 ((i : Int) + 1), fun dz uz wz => (uz = .slice (some ⟨X, 0, none⟩) n xc ∧ wz.ownsRow 0 44 3 (.slice (some ⟨X, 0, none⟩) n xc) n ((opsV (p.threads.getD na [])).take (i * 3) ++ (opsV (p.threads.getD na [])).drop ((i + 1) * 3)) ∧ W1.grownBy wz (some X))] (St1 9 (Touch [X])) (fun _ _ => none) (Stage 9 [X] W1) (Stage.start _ _ _) (st1_size (fun _ _ h => h.size)) (stab1_of ⟨fun _ _ _ _ _ h => h, fun _ _ _ _ _ h => h, fun _ _ _ _ _ h => h, fun _ _ _ _ _ h => h, fun _ _ _ _ _ h => h, fun _ _ _ _ _ h => h, fun _ _ _ _ _ h => h, fun _ _ _ _ _ h => h, fun _ _ _ _ _ h => h, fun _ _ _ _ hb h => ⟨h.1, owns_below h.2.1 hb, grown_trans h.2.2 (grown_below hb)⟩, trivial⟩ ⟨.inr (fun _ _ _ _ _ h => h), .inr (fun _ _ _ _ _ h => h), .inr (fun _ _ _ _ _ h => h), .inr (fun _ _ _ _ _ h => h), .inr (fun _ _ _ _ _ h => h), .inr (fun _ _ _ _ _ h => h), .inr (fun _ _ _ _ _ h => h), .inr (fun _ _ _ _ _ h => h), .inr (fun _ _ _ _ _ h => h), .inl rfl, trivial⟩) ?_ ?_
  · simp only [List.take_succ_cons, List.take_zero]
    refine ⟨?_, ?_, ?_, ?_, ?_, ?_, ?_, ?_, ?_, ?_, trivial⟩
    · intro ρ w1 L hG hny hfr hd
      have fc : ∀ z, ρ (.const z) = z := fun _ => hfr _ rfl
      have ff : ∀ z, ρ (.func z) = .func (.func z) #[] #[] := fun _ => hfr _ rfl
      have f0 : ρ (.tmp 0) = .pointer (some ⟨Bq, 0, none⟩) := hfr _ rfl
      refine gives_val (u := .pointer (some ⟨Bq, 0, none⟩)) (w' := w1) (by go_simp) ⟨st1_below (by decide) (Below.refl _ _), rfl, (fun _ hk => by cases hk), hG.step (by decide) (Below.refl _ _)⟩
    · intro ρ w1 L hG hny hfr hd
      have fc : ∀ z, ρ (.const z) = z := fun _ => hfr _ rfl
      have ff : ∀ z, ρ (.func z) = .func (.func z) #[] #[] := fun _ => hfr _ rfl
      obtain ⟨d0, -⟩ := hd
      have d0 : (ρ (.tmp 21)) = .pointer (some ⟨Bq, 0, none⟩) := d0
      refine gives_val (u := .pointer (some ⟨Bq, 0, none⟩)) (w' := w1) (by go_simp) ⟨st1_below (by decide) (Below.refl _ _), rfl, (fun _ hk => by cases hk), hG.step (by decide) (Below.refl _ _)⟩
    · intro ρ w1 L hG hny hfr hd
      have fc : ∀ z, ρ (.const z) = z := fun _ => hfr _ rfl
      have ff : ∀ z, ρ (.func z) = .func (.func z) #[] #[] := fun _ => hfr _ rfl
      obtain ⟨d0, -⟩ := hd
      have d0 : (ρ (.tmp 22)) = .pointer (some ⟨Bq, 0, none⟩) := d0
      refine gives_val (u := .pointer (some ⟨Bq, 4, none⟩)) (w' := w1) (by go_simp) ⟨st1_below (by decide) (Below.refl _ _), rfl, (fun _ hk => by cases hk), hG.step (by decide) (Below.refl _ _)⟩
    · intro ρ w1 L hG hny hfr hd
      have fc : ∀ z, ρ (.const z) = z := fun _ => hfr _ rfl
      have ff : ∀ z, ρ (.func z) = .func (.func z) #[] #[] := fun _ => hfr _ rfl
      obtain ⟨d0, -⟩ := hd
      have d0 : (ρ (.tmp 23)) = .pointer (some ⟨Bq, 4, none⟩) := d0
      have e4 := cell_touch hG.2 e4 (by simpa using hXQ)
      refine gives_val (u := .slice (some ⟨T, 0, none⟩) u.nt u.ct) (w' := w1) (by go_simp) ⟨st1_below (by decide) (Below.refl _ _), rfl, (fun _ hk => by cases hk), hG.step (by decide) (Below.refl _ _)⟩
    · intro ρ w1 L hG hny hfr hd
      have fc : ∀ z, ρ (.const z) = z := fun _ => hfr _ rfl
      have ff : ∀ z, ρ (.func z) = .func (.func z) #[] #[] := fun _ => hfr _ rfl
      have f1 : ρ (.tmp 1) = .pointer (some ⟨ba, 0, none⟩) := hfr _ rfl
      have ca := cell_touch hG.2 ca (by simpa using hXa)
      refine gives_val (u := .int .i64 na) (w' := w1) (by go_simp) ⟨st1_below (by decide) (Below.refl _ _), rfl, (fun _ hk => by cases hk), hG.step (by decide) (Below.refl _ _)⟩
    · intro ρ w1 L hG hny hfr hd
      have fc : ∀ z, ρ (.const z) = z := fun _ => hfr _ rfl
      have ff : ∀ z, ρ (.func z) = .func (.func z) #[] #[] := fun _ => hfr _ rfl
      have f5 : ρ (.tmp 5) = .slice (some ⟨X, 0, none⟩) (n + 1) xc := hfr _ rfl
      refine gives_val (u := .slice (some ⟨X, 0, none⟩) (n + 1) xc) (w' := w1) (by go_simp) ⟨st1_below (by decide) (Below.refl _ _), rfl, (fun _ hk => by cases hk), hG.step (by decide) (Below.refl _ _)⟩
    · intro ρ w1 L hG hny hfr hd
      have fc : ∀ z, ρ (.const z) = z := fun _ => hfr _ rfl
      have ff : ∀ z, ρ (.func z) = .func (.func z) #[] #[] := fun _ => hfr _ rfl
      have f2 : ρ (.tmp 2) = .pointer (some ⟨bb, 0, none⟩) := hfr _ rfl
      have cb := cell_touch hG.2 cb (by simpa using hXb)
      refine gives_val (u := .int .i64 i) (w' := w1) (by go_simp) ⟨st1_below (by decide) (Below.refl _ _), rfl, (fun _ hk => by cases hk), hG.step (by decide) (Below.refl _ _)⟩
    · intro ρ w1 L hG hny hfr hd
      have fc : ∀ z, ρ (.const z) = z := fun _ => hfr _ rfl
      have ff : ∀ z, ρ (.func z) = .func (.func z) #[] #[] := fun _ => hfr _ rfl
      have f2 : ρ (.tmp 2) = .pointer (some ⟨bb, 0, none⟩) := hfr _ rfl
      have cb := cell_touch hG.2 cb (by simpa using hXb)
      refine gives_val (u := .int .i64 i) (w' := w1) (by go_simp) ⟨st1_below (by decide) (Below.refl _ _), rfl, (fun _ hk => by cases hk), hG.step (by decide) (Below.refl _ _)⟩
    · intro ρ w1 L hG hny hfr hd
      have fc : ∀ z, ρ (.const z) = z := fun _ => hfr _ rfl
      have ff : ∀ z, ρ (.func z) = .func (.func z) #[] #[] := fun _ => hfr _ rfl
      obtain ⟨d0, -⟩ := hd
      have d0 : (ρ (.tmp 28)) = .int .i64 i := d0
      refine gives_val (u := .int .i64 ((i : Int) + 1)) (w' := w1) (by go_simp) ⟨st1_below (by decide) (Below.refl _ _), rfl, (fun _ hk => by cases hk), hG.step (by decide) (Below.refl _ _)⟩
    · intro ρ w1 L hG hny hfr hd
      have fc : ∀ z, ρ (.const z) = z := fun _ => hfr _ rfl
      have ff : ∀ z, ρ (.func z) = .func (.func z) #[] #[] := fun _ => hfr _ rfl
      obtain ⟨d0, d1, d2, -⟩ := hd
      have d0 : (ρ (.tmp 26)) = .slice (some ⟨X, 0, none⟩) (n + 1) xc := d0
      have d1 : (ρ (.tmp 27)) = .int .i64 i := d1
      have d2 : (ρ (.tmp 29)) = .int .i64 ((i : Int) + 1) := d2
      have hL := hny 9 _ rfl (by kernel_rfl)
      have hbe := hG.1 hL
      have ho := owns_below HR1.out hbe
      refine gives_call (by go_simp; exact ⟨⟨rfl, rfl⟩, rfl⟩) ?_
      refine (deleteOps_any X n xc i _ w1 ho hi (opsV_one _)).mono ?_
      rintro e w2 ⟨rfl, ho2, hg2⟩
      have hT : Touch [X] w1 w2 := Touch.of_grown hg2 (fun q hq => by simp at hq; simp [hq])
      exact ⟨_, rfl, st1_own hT, ⟨rfl, ho2, grown_trans (grown_below hbe) hg2⟩, (fun _ hk => by cases hk), hG.own hT⟩
  intro vs w2 L hG hlen hall hap hbd
  obtain ⟨xv0, vs0, rfl, hl0⟩ := len_cons hlen
  obtain ⟨xv1, vs1, rfl, hl1⟩ := len_cons hl0
  obtain ⟨xv2, vs2, rfl, hl2⟩ := len_cons hl1
  obtain ⟨xv3, vs3, rfl, hl3⟩ := len_cons hl2
  obtain ⟨xv4, vs4, rfl, hl4⟩ := len_cons hl3
  obtain ⟨xv5, vs5, rfl, hl5⟩ := len_cons hl4
  obtain ⟨xv6, vs6, rfl, hl6⟩ := len_cons hl5
  obtain ⟨xv7, vs7, rfl, hl7⟩ := len_cons hl6
  obtain ⟨xv8, vs8, rfl, hl8⟩ := len_cons hl7
  obtain ⟨xv9, vs9, rfl, hl9⟩ := len_cons hl8
  obtain rfl := len_nil hl9
  clear hlen hl0 hl1 hl2 hl3 hl4 hl5 hl6 hl7 hl8 hl9
  simp only [List.take_succ_cons, List.take_zero, List.drop_succ_cons, List.drop_zero] at hall ⊢
  obtain ⟨t0', t1', t2', t3', t4', t5', t6', t7', t8', t9', -⟩ := hall
  have hv0 : xv0 = .pointer (some ⟨Bq, 0, none⟩) := t0'
  have hv1 : xv1 = .pointer (some ⟨Bq, 0, none⟩) := t1'
  have hv2 : xv2 = .pointer (some ⟨Bq, 4, none⟩) := t2'
  have hv3 : xv3 = .slice (some ⟨T, 0, none⟩) u.nt u.ct := t3'
  have hv4 : xv4 = .int .i64 na := t4'
  have hv5 : xv5 = .slice (some ⟨X, 0, none⟩) (n + 1) xc := t5'
  have hv6 : xv6 = .int .i64 i := t6'
  have hv7 : xv7 = .int .i64 i := t7'
  have hv8 : xv8 = .int .i64 ((i : Int) + 1) := t8'
  have hv9 : (xv9 = .slice (some ⟨X, 0, none⟩) n xc ∧ w2.ownsRow 0 44 3 (.slice (some ⟨X, 0, none⟩) n xc) n ((opsV (p.threads.getD na [])).take (i * 3) ++ (opsV (p.threads.getD na [])).drop ((i + 1) * 3)) ∧ W1.grownBy w2 (some X)) := t9'
  clear t0' t1' t2' t3' t4' t5' t6' t7' t8' t9'
  clear hap hbd
  subst hv0 hv1 hv2 hv3 hv4 hv5 hv6 hv7 hv8
  simp only [putAll, Act.put, List.setIfInBounds_toArray, List.set_cons_succ, List.set_cons_zero]
  obtain ⟨rfl, hrow, hg⟩ := hv9
  have kQ2 : Blk w2 Bq _ _ := (hG.2.block Bq HK1.out.lt (by simpa using hXQ)).trans HK1.out
  have hot2 := owns_grown HOT1.out hg (fun k h1 h2 => hXT (by simp [rowOf] at h1; simp at h2; omega))
  have hvl := HO.out.ot.vlen
  have fa := hot2.frozenAt na
  have gT : w2.cell? ⟨T, na, none⟩ = some (.slice (some ⟨X, 0, none⟩) (n + 1) xc) := by rw [hot2.cellAt na (by omega), ← EXA.out]; simp [List.getD, hvl, hna]
  have HROW2 := Lib.hid hrow
  have HG2 := Lib.hid hg
  have HG := Lib.hid hG.2
  have HKQ := Lib.hid kQ2
  clear hG hrow hg kQ2 hot2 hvl
  go_wp2
  go_ret
  have hB2 : Touch [X, T] W1 (w2.setCell ⟨T, na, none⟩ (.slice (some ⟨X, 0, none⟩) n xc)) := (HG.out.mono (fun q hq => by simp at hq; simp [hq])).set (by simp)
  refine ⟨rfl, hBd.trans (hB2.below hBd.size (fun q hq => by simp at hq; rcases hq with rfl | rfl <;> omega)), fun p' hp' => ?_⟩
  obtain rfl : p.thr (p.threads.set na ((p.threads.getD na []).eraseIdx i)) = p' := by simpa using hp'
  have hnew := HROW2.out
  rw [← opsV_erase] at hnew
  have hfin := ownP_row HO1.out (fpP_rows HND.out) eT hna EXA.out HG2.out hnew
  exact ⟨u, HKQ.out.other ⟨T, na, none⟩ _ hQT, hfin.rd⟩

theorem dropRes_ok {p : Pg} {t x : Int} (hs : SmallP p) (h0 : 0 ≤ t) (h1 : t < p.threads.length) : ∀ p', dropRes p t x = some p' → SmallP p' ∧ 0 < p'.threads.length := by
  intro p' h
  unfold dropRes at h
  split at h
  · obtain rfl : p.thr (p.threads.set t.toNat ((p.threads.getD t.toNat []).eraseIdx x.toNat)) = p' := by simpa using h
    have h2 := hs.lt
    refine ⟨hs.thr (by simp; omega) (fun i => ?_), by show 0 < (p.threads.set t.toNat _).length; simp; omega⟩
    rw [getD_set_op _ _ _ _ (by omega)]
    split
    · have := hs.inn t.toNat
      have := List.length_eraseIdx_le (p.threads.getD t.toNat []) x.toNat
      omega
    · exact hs.inn i
  · cases h

set_option maxRecDepth 100000 in
set_option maxHeartbeats 4000000 in
theorem implDropOp_any (v : PV) (p : Pg) (a b : Int) (w : World) (hr : RdP w v p) (hz : Small v p) :
    Calls Try.prog 27 #[.agg #[.slice v.s v.ns v.cs, .slice v.g v.ng v.cg, .slice v.b v.nb v.cb, .slice v.r v.nr v.cr, .slice v.t v.nt v.ct], .int .i64 a, .int .i64 b] w fun e w' => ∃ (u : PV) (us : List Value), e = .returned (.tuple #[.agg #[.slice u.s u.ns u.cs, .slice u.g u.ng u.cg, .slice u.b u.nb u.cb, .slice u.r u.nr u.cr, .slice u.t u.nt u.ct], .bool (dropOp p a b).isSome]) ∧ OwnP w' u us ((dropOp p a b).getD noPg).cells ∧ (fpP u us).Nodup ∧ (∀ k ∈ fpP u us, w.heap.size ≤ k) ∧ Below w.heap.size w w' := by
  have hsd := hz.data hr
  have HSD := Lib.hid hsd
  have hmf : ∀ (fn : Fn) (first cap : Array Value) (w : World), (Instr.makeFunc fn first cap).run Try.prog w = .ok (.func fn first cap) w := fun _ _ _ _ => rfl
  obtain ⟨W0, hW0⟩ : ∃ W0 : World, W0 = ((((w.alloc (.cells #[.slice v.s v.ns v.cs, .slice v.g v.ng v.cg, .slice v.b v.nb v.cb, .slice v.r v.nr v.cr, .slice v.t v.nt v.ct] 26)).alloc (.cells #[.int .i64 a] 3)).alloc (.cells #[.int .i64 b] 3)).alloc (.cells #[.slice none 0 0, .slice none 0 0, .slice none 0 0, .slice none 0 0, .slice none 0 0] 26)) := ⟨_, rfl⟩
  have b0 : Below w.heap.size w ((((w.alloc (.cells #[.slice v.s v.ns v.cs, .slice v.g v.ng v.cg, .slice v.b v.nb v.cb, .slice v.r v.nr v.cr, .slice v.t v.nt v.ct] 26)).alloc (.cells #[.int .i64 a] 3)).alloc (.cells #[.int .i64 b] 3)).alloc (.cells #[.slice none 0 0, .slice none 0 0, .slice none 0 0, .slice none 0 0, .slice none 0 0] 26)) := (((((Below.refl _ _).alloc (Nat.le_refl _) _).alloc (by simp) _).alloc (by simp; omega) _).alloc (by simp; omega) _)
  have k0 : Blk ((((w.alloc (.cells #[.slice v.s v.ns v.cs, .slice v.g v.ng v.cg, .slice v.b v.nb v.cb, .slice v.r v.nr v.cr, .slice v.t v.nt v.ct] 26)).alloc (.cells #[.int .i64 a] 3)).alloc (.cells #[.int .i64 b] 3)).alloc (.cells #[.slice none 0 0, .slice none 0 0, .slice none 0 0, .slice none 0 0, .slice none 0 0] 26)) w.heap.size #[.slice v.s v.ns v.cs, .slice v.g v.ng v.cg, .slice v.b v.nb v.cb, .slice v.r v.nr v.cr, .slice v.t v.nt v.ct] 26 := (((Blk.new _ _ _).alloc _).alloc _).alloc _
  have k1 : Blk ((((w.alloc (.cells #[.slice v.s v.ns v.cs, .slice v.g v.ng v.cg, .slice v.b v.nb v.cb, .slice v.r v.nr v.cr, .slice v.t v.nt v.ct] 26)).alloc (.cells #[.int .i64 a] 3)).alloc (.cells #[.int .i64 b] 3)).alloc (.cells #[.slice none 0 0, .slice none 0 0, .slice none 0 0, .slice none 0 0, .slice none 0 0] 26)) (w.heap.size + 1) #[.int .i64 a] 3 := by simpa using ((Blk.new (w.alloc (.cells #[.slice v.s v.ns v.cs, .slice v.g v.ng v.cg, .slice v.b v.nb v.cb, .slice v.r v.nr v.cr, .slice v.t v.nt v.ct] 26)) #[.int .i64 a] 3).alloc _).alloc _
  have k2 : Blk ((((w.alloc (.cells #[.slice v.s v.ns v.cs, .slice v.g v.ng v.cg, .slice v.b v.nb v.cb, .slice v.r v.nr v.cr, .slice v.t v.nt v.ct] 26)).alloc (.cells #[.int .i64 a] 3)).alloc (.cells #[.int .i64 b] 3)).alloc (.cells #[.slice none 0 0, .slice none 0 0, .slice none 0 0, .slice none 0 0, .slice none 0 0] 26)) (w.heap.size + 1 + 1) #[.int .i64 b] 3 := by simpa using (Blk.new ((w.alloc (.cells #[.slice v.s v.ns v.cs, .slice v.g v.ng v.cg, .slice v.b v.nb v.cb, .slice v.r v.nr v.cr, .slice v.t v.nt v.ct] 26)).alloc (.cells #[.int .i64 a] 3)) #[.int .i64 b] 3).alloc _
  have kR : Blk ((((w.alloc (.cells #[.slice v.s v.ns v.cs, .slice v.g v.ng v.cg, .slice v.b v.nb v.cb, .slice v.r v.nr v.cr, .slice v.t v.nt v.ct] 26)).alloc (.cells #[.int .i64 a] 3)).alloc (.cells #[.int .i64 b] 3)).alloc (.cells #[.slice none 0 0, .slice none 0 0, .slice none 0 0, .slice none 0 0, .slice none 0 0] 26)) (w.heap.size + 1 + 1 + 1) #[.slice none 0 0, .slice none 0 0, .slice none 0 0, .slice none 0 0, .slice none 0 0] 26 := by simpa using Blk.new (((w.alloc (.cells #[.slice v.s v.ns v.cs, .slice v.g v.ng v.cg, .slice v.b v.nb v.cb, .slice v.r v.nr v.cr, .slice v.t v.nt v.ct] 26)).alloc (.cells #[.int .i64 a] 3)).alloc (.cells #[.int .i64 b] 3)) #[.slice none 0 0, .slice none 0 0, .slice none 0 0, .slice none 0 0, .slice none 0 0] 26
  have HW0 := Lib.hid hW0
  rw [← hW0] at b0 k0 k1 k2 kR
  clear hW0
  have q0 := k0.cell 0 rfl
  have q1 := k0.cell 1 rfl
  have q2 := k0.cell 2 rfl
  have q3 := k0.cell 3 rfl
  have q4 := k0.cell 4 rfl
  have c1 := k1.cell 0 rfl
  have c2 := k2.cell 0 rfl
  have hW := kR.lt
  have lt := Lib.hid hr.lt
  clear hsd
  go_enter Try.func27, Try.ntmps27
  go_wp2_with fail
  rw [← HW0.out]
  refine (change_any 66 #[.pointer (some ⟨w.heap.size + 1, 0, none⟩), .pointer (some ⟨w.heap.size + 1 + 1, 0, none⟩)] v p a (dropRes p a b) _ (enters_of Try.func66 (by kernel_rfl) rfl) (hr.below b0) hz
    (fun hv h0 h1 H hH => dropFn_any p a b H _ _ (keepc hH c1) (keepc hH c2) h0 h1 HSD.out) (fun hv h0 h1 p' hp' => dropRes_ok HSD.out h0 h1 p' hp')).mono ?_
  rintro e w1 ⟨u, us, rfl, ou, hnd, hfr, hb⟩
  have kR1 := kR.below hb
  have BE := b0.trans (hb.mono b0.size)
  have HO := Lib.hid ou
  have HFR := Lib.hid hfr
  have y0 := kR1.cell 0 rfl
  have x0 := kR1.fz 0
  have y1 := kR1.cell 1 rfl
  have x1 := kR1.fz 1
  have y2 := kR1.cell 2 rfl
  have x2 := kR1.fz 2
  have y3 := kR1.cell 3 rfl
  have x3 := kR1.fz 3
  have y4 := kR1.cell 4 rfl
  have x4 := kR1.fz 4
  clear ou hfr q0 q1 q2 q3 q4 c1 c2 k0 k1 k2 kR kR1
  go_wp2
  refine bodyPost_ret (v := .tuple #[.agg #[.slice u.s u.ns u.cs, .slice u.g u.ng u.cg, .slice u.b u.nb u.cb, .slice u.r u.nr u.cr, .slice u.t u.nt u.ct], .bool (dropOp p a b).isSome]) (by simp [results, Try.results27, go_sem, y0, y1, y2, y3, y4, dropOp]) rfl ⟨u, us, rfl, ?_, hnd, fun q hq => Nat.le_trans b0.size (HFR.out q hq), ?_⟩
  · refine HO.out.touch (S := [w.heap.size + 1 + 1 + 1]) ?_ (fun q hq hm => by have := HFR.out q hq; simp at hm; omega)
    exact Touch.set (Touch.set (Touch.set (Touch.set (Touch.set (Touch.refl _ _) (by simp)) (by simp)) (by simp)) (by simp)) (by simp)
  · exact ((((BE.setCell (by simp; omega) _).setCell (by simp; omega) _).setCell (by simp; omega) _).setCell (by simp; omega) _).setCell (by simp; omega) _

end Go.Proofs.Ytnobkdkfhgjeeab
