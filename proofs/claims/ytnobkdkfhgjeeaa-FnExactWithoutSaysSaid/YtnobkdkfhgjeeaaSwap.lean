/- SwapThreads: the program's own text. -/
import Derived.Test.YtnobkdkfhgjeeaaChangeKit
import Derived.Deep.RegionHeld3
namespace Go.Proofs.Ytnobkdkfhgjeeaa
open Go.RowKit

set_option maxRecDepth 100000 in
set_option maxHeartbeats 4000000 in
theorem swapFn_any (p : Pg) (a b : Int) (H : World) (ba bb : Nat) (ha : H.cell? ⟨ba, 0, none⟩ = some (.int .i64 a)) (hb : H.cell? ⟨bb, 0, none⟩ = some (.int .i64 b)) (h0 : 0 ≤ a) (h1 : a < p.threads.length) (hlen : p.threads.length ≤ 1048576) :
    Changes H 65 #[.pointer (some ⟨bb, 0, none⟩), .pointer (some ⟨ba, 0, none⟩)] p (swapRes p a b) := by
  intro u us W Bq hB hq hO hnd hfr kQ
  have hnt : p.threads.length = u.nt := by have := hO.ot.len; simpa [Pg.cells] using this
  have ca := keepc hB ha
  have cb := keepc hB hb
  have e4 := kQ.cell 4 rfl
  have hA := ha
  have hB' := hb
  clear ha hb
  by_cases hb0 : b < 0
  · have HN : Hid (swapRes p a b = none) := Lib.hid (by unfold swapRes; rw [if_neg (by omega)])
    rw [HN.out]
    have t0 : decide (b < 0) = true := decide_eq_true hb0
    go_enter Try.func65, Try.ntmps65
    go_wp2
    go_quiet (fail)
    go_wp2
    go_ret
    exact ⟨rfl, hB.trans ((below_drewN' _ _).mono hB.size), by simp⟩
  by_cases hb1 : (u.nt : Int) ≤ b
  · have HN : Hid (swapRes p a b = none) := Lib.hid (by unfold swapRes; rw [if_neg (by omega)])
    rw [HN.out]
    have t0 : decide (b < 0) = false := decide_eq_false hb0
    have t1 : decide ((u.nt : Int) ≤ b) = true := decide_eq_true hb1
    go_enter Try.func65, Try.ntmps65
    go_wp2
    go_quiet (fail)
    go_wp2
    go_ret
    exact ⟨rfl, hB.trans ((below_drewN' _ _).mono hB.size), by simp⟩
  have HN : Hid (swapRes p a b = some (p.thr (swapTs [] p.threads a.toNat b.toNat))) := Lib.hid (by unfold swapRes; rw [if_pos (by omega)])
  rw [HN.out]
  have t0 : decide (b < 0) = false := decide_eq_false hb0
  have t1 : decide ((u.nt : Int) ≤ b) = false := decide_eq_false hb1
  obtain ⟨na, rfl⟩ := Int.eq_ofNat_of_zero_le h0
  obtain ⟨nb, rfl⟩ := Int.eq_ofNat_of_zero_le (show 0 ≤ b by omega)
  have hna : na < u.nt := by omega
  have hnb : nb < u.nt := by omega
  obtain ⟨T, eT, hT1, hT2⟩ := owns_at hO.ot.out (by omega)
  obtain ⟨xa, ma, ya, exa, -⟩ := hO.ot.inn na hna
  obtain ⟨xb, mb, yb, exb, -⟩ := hO.ot.inn nb hnb
  have hot := hO.ot.out
  rw [eT] at hot e4
  have hvl := hO.ot.vlen
  have ga : W.cell? ⟨T, na, none⟩ = some (.slice xa ma ya) := by rw [hot.cellAt na (by omega), ← exa]; simp [List.getD, hvl, hna]
  have gb : W.cell? ⟨T, nb, none⟩ = some (.slice xb mb yb) := by rw [hot.cellAt nb (by omega), ← exb]; simp [List.getD, hvl, hnb]
  have fa := hot.frozenAt na
  have fb := hot.frozenAt nb
  have hQT : Bq ≠ T := fun e => blk_owns kQ hO.ot.out types_ne.2.2.2.1 (by rw [eT, e]; rfl)
  have hTH : H.heap.size ≤ T := hfr T (by unfold fpP fpT; rw [eT]; simp [rowOf])
  have hTa : ba ≠ T := by have := World.block_lt_of_cell? _ _ hA; simp only at this; omega
  have hTb : bb ≠ T := by have := World.block_lt_of_cell? _ _ hB'; simp only at this; omega
  have EXA := Lib.hid exa
  have EXB := Lib.hid exb
  clear exa exb
  have HNT := Lib.hid hnt
  have HO := Lib.hid hO
  have HOT := Lib.hid hot
  have i0 : (0 : Int) ≤ (na : Int) := by omega
  have i1 : (na : Int) < u.nt := by omega
  have i2 : (0 : Int) ≤ (nb : Int) := by omega
  have i3 : (nb : Int) < u.nt := by omega
  clear hnt hO hot hvl hlen h0 h1 hnd hA hB'
  go_enter Try.func65, Try.ntmps65
  go_wp2
  go_quiet (fail)
  go_wp2
  obtain ⟨W1, hW1⟩ : ∃ W1 : World, W1 = W.drewN nq := ⟨_, rfl⟩
  have hd : Below W.heap.size W (W.drewN nq) := below_drewN' _ _
  rw [← hW1] at hd ⊢
  clear hW1
  replace ca := keepc hd ca
  replace cb := keepc hd cb
  replace e4 := keepc hd e4
  replace ga := keepc hd ga
  replace gb := keepc hd gb
  have fa1 : W1.frozen? ⟨T, na, none⟩ = false := (hd.frozen hT2).trans fa
  have fb1 : W1.frozen? ⟨T, nb, none⟩ = false := (hd.frozen hT2).trans fb
  clear fa fb
  have HD := Lib.hid hd
  have HK := Lib.hid (kQ.below hd)
  have HO1 := Lib.hid (HO.out.below hd)
  have HOT1 := Lib.hid (owns_below HOT.out hd)
  clear fa1 fb1
  refine wp_region_steps 26 (by kernel_rfl) (by kernel_rfl) [fun dz uz wz => uz = .pointer (some ⟨Bq, 0, none⟩), fun dz uz wz => uz = .pointer (some ⟨Bq, 0, none⟩), fun dz uz wz => uz = .pointer (some ⟨Bq, 4, none⟩), fun dz uz wz => uz = .slice (some ⟨T, 0, none⟩) u.nt u.ct, fun dz uz wz => uz = .int .i64 na, fun dz uz wz => uz = .pointer (some ⟨Bq, 0, none⟩), fun dz uz wz => uz = .pointer (some ⟨Bq, 0, none⟩), fun dz uz wz => uz = .pointer (some ⟨Bq, 4, none⟩), fun dz uz wz => uz = .slice (some ⟨T, 0, none⟩) u.nt u.ct, fun dz uz wz => uz = .int .i64 nb, fun dz uz wz => uz = .pointer (some ⟨Bq, 0, none⟩), fun dz uz wz => uz = .pointer (some ⟨Bq, 0, none⟩), fun dz uz wz => uz = .pointer (some ⟨Bq, 4, none⟩), fun dz uz wz => uz = .slice (some ⟨T, 0, none⟩) u.nt u.ct, fun dz uz wz => uz = .int .i64 nb, fun dz uz wz => uz = .pointer (some ⟨T, nb, none⟩), fun dz uz wz => uz = .slice xb mb yb, fun dz uz wz => uz = .pointer (some ⟨Bq, 0, none⟩), fun dz uz wz => uz = .pointer (some ⟨Bq, 0, none⟩), fun dz uz wz => uz = .pointer (some ⟨Bq, 4, none⟩), fun dz uz wz => uz = .slice (some ⟨T, 0, none⟩) u.nt u.ct, fun dz uz wz => uz = .int .i64 na, fun dz uz wz => uz = .pointer (some ⟨T, na, none⟩), fun dz uz wz => uz = .slice xa ma ya, fun dz uz wz => uz = .pointer (some ⟨T, na, none⟩), fun dz uz wz => wz.ownsRow 0 49 1 (.slice (some ⟨T, 0, none⟩) u.nt u.ct) u.nt (us.set na (.slice xb mb yb))] (St1 25 (Touch [T])) (fun _ _ => none) (Stage 25 [T] W1) (Stage.start _ _ _) (st1_size (fun _ _ h => h.size)) (stab1_of ⟨fun _ _ _ _ _ h => h, fun _ _ _ _ _ h => h, fun _ _ _ _ _ h => h, fun _ _ _ _ _ h => h, fun _ _ _ _ _ h => h, fun _ _ _ _ _ h => h, fun _ _ _ _ _ h => h, fun _ _ _ _ _ h => h, fun _ _ _ _ _ h => h, fun _ _ _ _ _ h => h, fun _ _ _ _ _ h => h, fun _ _ _ _ _ h => h, fun _ _ _ _ _ h => h, fun _ _ _ _ _ h => h, fun _ _ _ _ _ h => h, fun _ _ _ _ _ h => h, fun _ _ _ _ _ h => h, fun _ _ _ _ _ h => h, fun _ _ _ _ _ h => h, fun _ _ _ _ _ h => h, fun _ _ _ _ _ h => h, fun _ _ _ _ _ h => h, fun _ _ _ _ _ h => h, fun _ _ _ _ _ h => h, fun _ _ _ _ _ h => h, fun _ _ _ _ hb h => owns_below h hb, trivial⟩ ⟨.inr (fun _ _ _ _ _ h => h), .inr (fun _ _ _ _ _ h => h), .inr (fun _ _ _ _ _ h => h), .inr (fun _ _ _ _ _ h => h), .inr (fun _ _ _ _ _ h => h), .inr (fun _ _ _ _ _ h => h), .inr (fun _ _ _ _ _ h => h), .inr (fun _ _ _ _ _ h => h), .inr (fun _ _ _ _ _ h => h), .inr (fun _ _ _ _ _ h => h), .inr (fun _ _ _ _ _ h => h), .inr (fun _ _ _ _ _ h => h), .inr (fun _ _ _ _ _ h => h), .inr (fun _ _ _ _ _ h => h), .inr (fun _ _ _ _ _ h => h), .inr (fun _ _ _ _ _ h => h), .inr (fun _ _ _ _ _ h => h), .inr (fun _ _ _ _ _ h => h), .inr (fun _ _ _ _ _ h => h), .inr (fun _ _ _ _ _ h => h), .inr (fun _ _ _ _ _ h => h), .inr (fun _ _ _ _ _ h => h), .inr (fun _ _ _ _ _ h => h), .inr (fun _ _ _ _ _ h => h), .inr (fun _ _ _ _ _ h => h), .inl rfl, trivial⟩) ?_ ?_
  · simp only [List.take_succ_cons, List.take_zero]
    refine ⟨?_, ?_, ?_, ?_, ?_, ?_, ?_, ?_, ?_, ?_, ?_, ?_, ?_, ?_, ?_, ?_, ?_, ?_, ?_, ?_, ?_, ?_, ?_, ?_, ?_, ?_, trivial⟩
    · intro ρ w1 L hG hny hfr hd
      have fc : ∀ z, ρ (.const z) = z := fun _ => hfr _ rfl
      have ff : ∀ z, ρ (.func z) = .func (.func z) #[] #[] := fun _ => hfr _ rfl
      have f0 : ρ (.tmp 0) = .pointer (some ⟨Bq, 0, none⟩) := hfr _ rfl
      refine gives_val (u := .pointer (some ⟨Bq, 0, none⟩)) (w' := w1) (by go_simp) ⟨st1_below (by decide) (Below.refl _ _), rfl, (fun _ hk => by cases hk), hG.step (by decide) (Below.refl _ _)⟩
    · intro ρ w1 L hG hny hfr hd
      have fc : ∀ z, ρ (.const z) = z := fun _ => hfr _ rfl
      have ff : ∀ z, ρ (.func z) = .func (.func z) #[] #[] := fun _ => hfr _ rfl
      obtain ⟨d0, -⟩ := hd
      have d0 : (ρ (.tmp 16)) = .pointer (some ⟨Bq, 0, none⟩) := d0
      refine gives_val (u := .pointer (some ⟨Bq, 0, none⟩)) (w' := w1) (by go_simp) ⟨st1_below (by decide) (Below.refl _ _), rfl, (fun _ hk => by cases hk), hG.step (by decide) (Below.refl _ _)⟩
    · intro ρ w1 L hG hny hfr hd
      have fc : ∀ z, ρ (.const z) = z := fun _ => hfr _ rfl
      have ff : ∀ z, ρ (.func z) = .func (.func z) #[] #[] := fun _ => hfr _ rfl
      obtain ⟨d0, -⟩ := hd
      have d0 : (ρ (.tmp 17)) = .pointer (some ⟨Bq, 0, none⟩) := d0
      refine gives_val (u := .pointer (some ⟨Bq, 4, none⟩)) (w' := w1) (by go_simp) ⟨st1_below (by decide) (Below.refl _ _), rfl, (fun _ hk => by cases hk), hG.step (by decide) (Below.refl _ _)⟩
    · intro ρ w1 L hG hny hfr hd
      have fc : ∀ z, ρ (.const z) = z := fun _ => hfr _ rfl
      have ff : ∀ z, ρ (.func z) = .func (.func z) #[] #[] := fun _ => hfr _ rfl
      obtain ⟨d0, -⟩ := hd
      have d0 : (ρ (.tmp 18)) = .pointer (some ⟨Bq, 4, none⟩) := d0
      have e4 := cell_touch hG.2 e4 (by simpa using hQT)
      refine gives_val (u := .slice (some ⟨T, 0, none⟩) u.nt u.ct) (w' := w1) (by go_simp) ⟨st1_below (by decide) (Below.refl _ _), rfl, (fun _ hk => by cases hk), hG.step (by decide) (Below.refl _ _)⟩
    · intro ρ w1 L hG hny hfr hd
      have fc : ∀ z, ρ (.const z) = z := fun _ => hfr _ rfl
      have ff : ∀ z, ρ (.func z) = .func (.func z) #[] #[] := fun _ => hfr _ rfl
      have f2 : ρ (.tmp 2) = .pointer (some ⟨ba, 0, none⟩) := hfr _ rfl
      have ca := cell_touch hG.2 ca (by simpa using hTa)
      refine gives_val (u := .int .i64 na) (w' := w1) (by go_simp) ⟨st1_below (by decide) (Below.refl _ _), rfl, (fun _ hk => by cases hk), hG.step (by decide) (Below.refl _ _)⟩
    · intro ρ w1 L hG hny hfr hd
      have fc : ∀ z, ρ (.const z) = z := fun _ => hfr _ rfl
      have ff : ∀ z, ρ (.func z) = .func (.func z) #[] #[] := fun _ => hfr _ rfl
      have f0 : ρ (.tmp 0) = .pointer (some ⟨Bq, 0, none⟩) := hfr _ rfl
      refine gives_val (u := .pointer (some ⟨Bq, 0, none⟩)) (w' := w1) (by go_simp) ⟨st1_below (by decide) (Below.refl _ _), rfl, (fun _ hk => by cases hk), hG.step (by decide) (Below.refl _ _)⟩
    · intro ρ w1 L hG hny hfr hd
      have fc : ∀ z, ρ (.const z) = z := fun _ => hfr _ rfl
      have ff : ∀ z, ρ (.func z) = .func (.func z) #[] #[] := fun _ => hfr _ rfl
      obtain ⟨d0, -⟩ := hd
      have d0 : (ρ (.tmp 21)) = .pointer (some ⟨Bq, 0, none⟩) := d0
      refine gives_val (u := .pointer (some ⟨Bq, 0, none⟩)) (w' := w1) (by go_simp) ⟨st1_below (by decide) (Below.refl _ _), rfl, (fun _ hk => by cases hk), hG.step (by decide) (Below.refl _ _)⟩
    · intro ρ w1 L hG hny hfr hd
      have fc : ∀ z, ρ (.const z) = z := fun _ => hfr _ rfl
      have ff : ∀ z, ρ (.func z) = .func (.func z) #[] #[] := fun _ => hfr _ rfl
      obtain ⟨d0, -⟩ := hd
      have d0 : (ρ (.tmp 22)) = .pointer (some ⟨Bq, 0, none⟩) := d0
      refine gives_val (u := .pointer (some ⟨Bq, 4, none⟩)) (w' := w1) (by go_simp) ⟨st1_below (by decide) (Below.refl _ _), rfl, (fun _ hk => by cases hk), hG.step (by decide) (Below.refl _ _)⟩
    · intro ρ w1 L hG hny hfr hd
      have fc : ∀ z, ρ (.const z) = z := fun _ => hfr _ rfl
      have ff : ∀ z, ρ (.func z) = .func (.func z) #[] #[] := fun _ => hfr _ rfl
      obtain ⟨d0, -⟩ := hd
      have d0 : (ρ (.tmp 23)) = .pointer (some ⟨Bq, 4, none⟩) := d0
      have e4 := cell_touch hG.2 e4 (by simpa using hQT)
      refine gives_val (u := .slice (some ⟨T, 0, none⟩) u.nt u.ct) (w' := w1) (by go_simp) ⟨st1_below (by decide) (Below.refl _ _), rfl, (fun _ hk => by cases hk), hG.step (by decide) (Below.refl _ _)⟩
    · intro ρ w1 L hG hny hfr hd
      have fc : ∀ z, ρ (.const z) = z := fun _ => hfr _ rfl
      have ff : ∀ z, ρ (.func z) = .func (.func z) #[] #[] := fun _ => hfr _ rfl
      have f1 : ρ (.tmp 1) = .pointer (some ⟨bb, 0, none⟩) := hfr _ rfl
      have cb := cell_touch hG.2 cb (by simpa using hTb)
      refine gives_val (u := .int .i64 nb) (w' := w1) (by go_simp) ⟨st1_below (by decide) (Below.refl _ _), rfl, (fun _ hk => by cases hk), hG.step (by decide) (Below.refl _ _)⟩
    · intro ρ w1 L hG hny hfr hd
      have fc : ∀ z, ρ (.const z) = z := fun _ => hfr _ rfl
      have ff : ∀ z, ρ (.func z) = .func (.func z) #[] #[] := fun _ => hfr _ rfl
      have f0 : ρ (.tmp 0) = .pointer (some ⟨Bq, 0, none⟩) := hfr _ rfl
      refine gives_val (u := .pointer (some ⟨Bq, 0, none⟩)) (w' := w1) (by go_simp) ⟨st1_below (by decide) (Below.refl _ _), rfl, (fun _ hk => by cases hk), hG.step (by decide) (Below.refl _ _)⟩
    · intro ρ w1 L hG hny hfr hd
      have fc : ∀ z, ρ (.const z) = z := fun _ => hfr _ rfl
      have ff : ∀ z, ρ (.func z) = .func (.func z) #[] #[] := fun _ => hfr _ rfl
      obtain ⟨d0, -⟩ := hd
      have d0 : (ρ (.tmp 26)) = .pointer (some ⟨Bq, 0, none⟩) := d0
      refine gives_val (u := .pointer (some ⟨Bq, 0, none⟩)) (w' := w1) (by go_simp) ⟨st1_below (by decide) (Below.refl _ _), rfl, (fun _ hk => by cases hk), hG.step (by decide) (Below.refl _ _)⟩
    · intro ρ w1 L hG hny hfr hd
      have fc : ∀ z, ρ (.const z) = z := fun _ => hfr _ rfl
      have ff : ∀ z, ρ (.func z) = .func (.func z) #[] #[] := fun _ => hfr _ rfl
      obtain ⟨d0, -⟩ := hd
      have d0 : (ρ (.tmp 27)) = .pointer (some ⟨Bq, 0, none⟩) := d0
      refine gives_val (u := .pointer (some ⟨Bq, 4, none⟩)) (w' := w1) (by go_simp) ⟨st1_below (by decide) (Below.refl _ _), rfl, (fun _ hk => by cases hk), hG.step (by decide) (Below.refl _ _)⟩
    · intro ρ w1 L hG hny hfr hd
      have fc : ∀ z, ρ (.const z) = z := fun _ => hfr _ rfl
      have ff : ∀ z, ρ (.func z) = .func (.func z) #[] #[] := fun _ => hfr _ rfl
      obtain ⟨d0, -⟩ := hd
      have d0 : (ρ (.tmp 28)) = .pointer (some ⟨Bq, 4, none⟩) := d0
      have e4 := cell_touch hG.2 e4 (by simpa using hQT)
      refine gives_val (u := .slice (some ⟨T, 0, none⟩) u.nt u.ct) (w' := w1) (by go_simp) ⟨st1_below (by decide) (Below.refl _ _), rfl, (fun _ hk => by cases hk), hG.step (by decide) (Below.refl _ _)⟩
    · intro ρ w1 L hG hny hfr hd
      have fc : ∀ z, ρ (.const z) = z := fun _ => hfr _ rfl
      have ff : ∀ z, ρ (.func z) = .func (.func z) #[] #[] := fun _ => hfr _ rfl
      have f1 : ρ (.tmp 1) = .pointer (some ⟨bb, 0, none⟩) := hfr _ rfl
      have cb := cell_touch hG.2 cb (by simpa using hTb)
      refine gives_val (u := .int .i64 nb) (w' := w1) (by go_simp) ⟨st1_below (by decide) (Below.refl _ _), rfl, (fun _ hk => by cases hk), hG.step (by decide) (Below.refl _ _)⟩
    · intro ρ w1 L hG hny hfr hd
      have fc : ∀ z, ρ (.const z) = z := fun _ => hfr _ rfl
      have ff : ∀ z, ρ (.func z) = .func (.func z) #[] #[] := fun _ => hfr _ rfl
      obtain ⟨d0, d1, -⟩ := hd
      have d0 : (ρ (.tmp 29)) = .slice (some ⟨T, 0, none⟩) u.nt u.ct := d0
      have d1 : (ρ (.tmp 30)) = .int .i64 nb := d1
      refine gives_val (u := .pointer (some ⟨T, nb, none⟩)) (w' := w1) (by go_simp) ⟨st1_below (by decide) (Below.refl _ _), rfl, (fun _ hk => by cases hk), hG.step (by decide) (Below.refl _ _)⟩
    · intro ρ w1 L hG hny hfr hd
      have fc : ∀ z, ρ (.const z) = z := fun _ => hfr _ rfl
      have ff : ∀ z, ρ (.func z) = .func (.func z) #[] #[] := fun _ => hfr _ rfl
      obtain ⟨d0, -⟩ := hd
      have d0 : (ρ (.tmp 31)) = .pointer (some ⟨T, nb, none⟩) := d0
      have hL := hny 25 _ rfl (by kernel_rfl)
      have gb := keepc (hG.1 hL) gb
      refine gives_val (u := .slice xb mb yb) (w' := w1) (by go_simp) ⟨st1_below (by decide) (Below.refl _ _), rfl, (fun _ hk => by cases hk), hG.step (by decide) (Below.refl _ _)⟩
    · intro ρ w1 L hG hny hfr hd
      have fc : ∀ z, ρ (.const z) = z := fun _ => hfr _ rfl
      have ff : ∀ z, ρ (.func z) = .func (.func z) #[] #[] := fun _ => hfr _ rfl
      have f0 : ρ (.tmp 0) = .pointer (some ⟨Bq, 0, none⟩) := hfr _ rfl
      refine gives_val (u := .pointer (some ⟨Bq, 0, none⟩)) (w' := w1) (by go_simp) ⟨st1_below (by decide) (Below.refl _ _), rfl, (fun _ hk => by cases hk), hG.step (by decide) (Below.refl _ _)⟩
    · intro ρ w1 L hG hny hfr hd
      have fc : ∀ z, ρ (.const z) = z := fun _ => hfr _ rfl
      have ff : ∀ z, ρ (.func z) = .func (.func z) #[] #[] := fun _ => hfr _ rfl
      obtain ⟨d0, -⟩ := hd
      have d0 : (ρ (.tmp 33)) = .pointer (some ⟨Bq, 0, none⟩) := d0
      refine gives_val (u := .pointer (some ⟨Bq, 0, none⟩)) (w' := w1) (by go_simp) ⟨st1_below (by decide) (Below.refl _ _), rfl, (fun _ hk => by cases hk), hG.step (by decide) (Below.refl _ _)⟩
    · intro ρ w1 L hG hny hfr hd
      have fc : ∀ z, ρ (.const z) = z := fun _ => hfr _ rfl
      have ff : ∀ z, ρ (.func z) = .func (.func z) #[] #[] := fun _ => hfr _ rfl
      obtain ⟨d0, -⟩ := hd
      have d0 : (ρ (.tmp 34)) = .pointer (some ⟨Bq, 0, none⟩) := d0
      refine gives_val (u := .pointer (some ⟨Bq, 4, none⟩)) (w' := w1) (by go_simp) ⟨st1_below (by decide) (Below.refl _ _), rfl, (fun _ hk => by cases hk), hG.step (by decide) (Below.refl _ _)⟩
    · intro ρ w1 L hG hny hfr hd
      have fc : ∀ z, ρ (.const z) = z := fun _ => hfr _ rfl
      have ff : ∀ z, ρ (.func z) = .func (.func z) #[] #[] := fun _ => hfr _ rfl
      obtain ⟨d0, -⟩ := hd
      have d0 : (ρ (.tmp 35)) = .pointer (some ⟨Bq, 4, none⟩) := d0
      have e4 := cell_touch hG.2 e4 (by simpa using hQT)
      refine gives_val (u := .slice (some ⟨T, 0, none⟩) u.nt u.ct) (w' := w1) (by go_simp) ⟨st1_below (by decide) (Below.refl _ _), rfl, (fun _ hk => by cases hk), hG.step (by decide) (Below.refl _ _)⟩
    · intro ρ w1 L hG hny hfr hd
      have fc : ∀ z, ρ (.const z) = z := fun _ => hfr _ rfl
      have ff : ∀ z, ρ (.func z) = .func (.func z) #[] #[] := fun _ => hfr _ rfl
      have f2 : ρ (.tmp 2) = .pointer (some ⟨ba, 0, none⟩) := hfr _ rfl
      have ca := cell_touch hG.2 ca (by simpa using hTa)
      refine gives_val (u := .int .i64 na) (w' := w1) (by go_simp) ⟨st1_below (by decide) (Below.refl _ _), rfl, (fun _ hk => by cases hk), hG.step (by decide) (Below.refl _ _)⟩
    · intro ρ w1 L hG hny hfr hd
      have fc : ∀ z, ρ (.const z) = z := fun _ => hfr _ rfl
      have ff : ∀ z, ρ (.func z) = .func (.func z) #[] #[] := fun _ => hfr _ rfl
      obtain ⟨d0, d1, -⟩ := hd
      have d0 : (ρ (.tmp 36)) = .slice (some ⟨T, 0, none⟩) u.nt u.ct := d0
      have d1 : (ρ (.tmp 37)) = .int .i64 na := d1
      refine gives_val (u := .pointer (some ⟨T, na, none⟩)) (w' := w1) (by go_simp) ⟨st1_below (by decide) (Below.refl _ _), rfl, (fun _ hk => by cases hk), hG.step (by decide) (Below.refl _ _)⟩
    · intro ρ w1 L hG hny hfr hd
      have fc : ∀ z, ρ (.const z) = z := fun _ => hfr _ rfl
      have ff : ∀ z, ρ (.func z) = .func (.func z) #[] #[] := fun _ => hfr _ rfl
      obtain ⟨d0, -⟩ := hd
      have d0 : (ρ (.tmp 38)) = .pointer (some ⟨T, na, none⟩) := d0
      have hL := hny 25 _ rfl (by kernel_rfl)
      have ga := keepc (hG.1 hL) ga
      refine gives_val (u := .slice xa ma ya) (w' := w1) (by go_simp) ⟨st1_below (by decide) (Below.refl _ _), rfl, (fun _ hk => by cases hk), hG.step (by decide) (Below.refl _ _)⟩
    · intro ρ w1 L hG hny hfr hd
      have fc : ∀ z, ρ (.const z) = z := fun _ => hfr _ rfl
      have ff : ∀ z, ρ (.func z) = .func (.func z) #[] #[] := fun _ => hfr _ rfl
      obtain ⟨d0, d1, -⟩ := hd
      have d0 : (ρ (.tmp 19)) = .slice (some ⟨T, 0, none⟩) u.nt u.ct := d0
      have d1 : (ρ (.tmp 20)) = .int .i64 na := d1
      refine gives_val (u := .pointer (some ⟨T, na, none⟩)) (w' := w1) (by go_simp) ⟨st1_below (by decide) (Below.refl _ _), rfl, (fun _ hk => by cases hk), hG.step (by decide) (Below.refl _ _)⟩
    · intro ρ w1 L hG hny hfr hd
      have fc : ∀ z, ρ (.const z) = z := fun _ => hfr _ rfl
      have ff : ∀ z, ρ (.func z) = .func (.func z) #[] #[] := fun _ => hfr _ rfl
      obtain ⟨d0, d1, -⟩ := hd
      have d0 : (ρ (.tmp 40)) = .pointer (some ⟨T, na, none⟩) := d0
      have d1 : (ρ (.tmp 32)) = .slice xb mb yb := d1
      have hL := hny 25 _ rfl (by kernel_rfl)
      have ga := keepc (hG.1 hL) ga
      have ho := owns_below HOT1.out (hG.1 hL)
      have fz := ho.frozenAt na
      have HS := Lib.hid (owns_store ho na (.slice xb mb yb) rfl).1
      clear ho
      refine gives_skip (w' := w1.setCell ⟨T, na, none⟩ (.slice xb mb yb)) (by go_simp) ⟨st1_own ((Touch.refl _ _).set (by simp)), HS.out, (fun _ hk => by cases hk), hG.own ((Touch.refl _ _).set (by simp))⟩
  intro vs w2 L hG hlen hall hap hbd
  obtain ⟨xv0, vs0, rfl, hl0⟩ := len_cons hlen
  obtain ⟨xv1, vs1, rfl, hl1⟩ := len_cons hl0
  obtain ⟨xv2, vs2, rfl, hl2⟩ := len_cons hl1
  obtain ⟨xv3, vs3, rfl, hl3⟩ := len_cons hl2
  obtain ⟨xv4, vs4, rfl, hl4⟩ := len_cons hl3
  obtain ⟨xv5, vs5, rfl, hl5⟩ := len_cons hl4
  obtain ⟨xv6, vs6, rfl, hl6⟩ := len_cons hl5
  obtain ⟨xv7, vs7, rfl, hl7⟩ := len_cons hl6
  obtain ⟨xv8, vs8, rfl, hl8⟩ := len_cons hl7
  obtain ⟨xv9, vs9, rfl, hl9⟩ := len_cons hl8
  obtain ⟨xv10, vs10, rfl, hl10⟩ := len_cons hl9
  obtain ⟨xv11, vs11, rfl, hl11⟩ := len_cons hl10
  obtain ⟨xv12, vs12, rfl, hl12⟩ := len_cons hl11
  obtain ⟨xv13, vs13, rfl, hl13⟩ := len_cons hl12
  obtain ⟨xv14, vs14, rfl, hl14⟩ := len_cons hl13
  obtain ⟨xv15, vs15, rfl, hl15⟩ := len_cons hl14
  obtain ⟨xv16, vs16, rfl, hl16⟩ := len_cons hl15
  obtain ⟨xv17, vs17, rfl, hl17⟩ := len_cons hl16
  obtain ⟨xv18, vs18, rfl, hl18⟩ := len_cons hl17
  obtain ⟨xv19, vs19, rfl, hl19⟩ := len_cons hl18
  obtain ⟨xv20, vs20, rfl, hl20⟩ := len_cons hl19
  obtain ⟨xv21, vs21, rfl, hl21⟩ := len_cons hl20
  obtain ⟨xv22, vs22, rfl, hl22⟩ := len_cons hl21
  obtain ⟨xv23, vs23, rfl, hl23⟩ := len_cons hl22
  obtain ⟨xv24, vs24, rfl, hl24⟩ := len_cons hl23
  obtain ⟨xv25, vs25, rfl, hl25⟩ := len_cons hl24
  obtain rfl := len_nil hl25
  clear hlen hl0 hl1 hl2 hl3 hl4 hl5 hl6 hl7 hl8 hl9 hl10 hl11 hl12 hl13 hl14 hl15 hl16 hl17 hl18 hl19 hl20 hl21 hl22 hl23 hl24 hl25
  simp only [List.take_succ_cons, List.take_zero, List.drop_succ_cons, List.drop_zero] at hall ⊢
  obtain ⟨t0', t1', t2', t3', t4', t5', t6', t7', t8', t9', t10', t11', t12', t13', t14', t15', t16', t17', t18', t19', t20', t21', t22', t23', t24', t25', -⟩ := hall
  have hv0 : xv0 = .pointer (some ⟨Bq, 0, none⟩) := t0'
  have hv1 : xv1 = .pointer (some ⟨Bq, 0, none⟩) := t1'
  have hv2 : xv2 = .pointer (some ⟨Bq, 4, none⟩) := t2'
  have hv3 : xv3 = .slice (some ⟨T, 0, none⟩) u.nt u.ct := t3'
  have hv4 : xv4 = .int .i64 na := t4'
  have hv5 : xv5 = .pointer (some ⟨Bq, 0, none⟩) := t5'
  have hv6 : xv6 = .pointer (some ⟨Bq, 0, none⟩) := t6'
  have hv7 : xv7 = .pointer (some ⟨Bq, 4, none⟩) := t7'
  have hv8 : xv8 = .slice (some ⟨T, 0, none⟩) u.nt u.ct := t8'
  have hv9 : xv9 = .int .i64 nb := t9'
  have hv10 : xv10 = .pointer (some ⟨Bq, 0, none⟩) := t10'
  have hv11 : xv11 = .pointer (some ⟨Bq, 0, none⟩) := t11'
  have hv12 : xv12 = .pointer (some ⟨Bq, 4, none⟩) := t12'
  have hv13 : xv13 = .slice (some ⟨T, 0, none⟩) u.nt u.ct := t13'
  have hv14 : xv14 = .int .i64 nb := t14'
  have hv15 : xv15 = .pointer (some ⟨T, nb, none⟩) := t15'
  have hv16 : xv16 = .slice xb mb yb := t16'
  have hv17 : xv17 = .pointer (some ⟨Bq, 0, none⟩) := t17'
  have hv18 : xv18 = .pointer (some ⟨Bq, 0, none⟩) := t18'
  have hv19 : xv19 = .pointer (some ⟨Bq, 4, none⟩) := t19'
  have hv20 : xv20 = .slice (some ⟨T, 0, none⟩) u.nt u.ct := t20'
  have hv21 : xv21 = .int .i64 na := t21'
  have hv22 : xv22 = .pointer (some ⟨T, na, none⟩) := t22'
  have hv23 : xv23 = .slice xa ma ya := t23'
  have hv24 : xv24 = .pointer (some ⟨T, na, none⟩) := t24'
  have hv25 : w2.ownsRow 0 49 1 (.slice (some ⟨T, 0, none⟩) u.nt u.ct) u.nt (us.set na (.slice xb mb yb)) := t25'
  clear t0' t1' t2' t3' t4' t5' t6' t7' t8' t9' t10' t11' t12' t13' t14' t15' t16' t17' t18' t19' t20' t21' t22' t23' t24' t25'
  clear hap hbd
  subst hv0 hv1 hv2 hv3 hv4 hv5 hv6 hv7 hv8 hv9 hv10 hv11 hv12 hv13 hv14 hv15 hv16 hv17 hv18 hv19 hv20 hv21 hv22 hv23 hv24
  simp only [putAll, Act.put, List.setIfInBounds_toArray, List.set_cons_succ, List.set_cons_zero]
  obtain ⟨z, hz2⟩ : ∃ z, w2.cell? ⟨T, nb, none⟩ = some z := by
    rw [hv25.cellAt nb (by omega)]
    exact ⟨_, List.getElem?_eq_getElem (by have := hv25.1; omega)⟩
  have fz2 := hv25.frozenAt nb
  have HR := Lib.hid (owns_store hv25 nb (.slice xa ma ya) rfl)
  clear hv25
  go_wp2
  go_ret
  have hT1' : Touch [T] W1 (w2.setCell ⟨T, nb, none⟩ (.slice xa ma ya)) := hG.2.set (by simp)
  refine ⟨rfl, (hB.trans (HD.out.mono hB.size)).trans (hT1'.below (Nat.le_trans hB.size HD.out.size) (fun q hq => by simp at hq; omega)), fun p' hp' => ?_⟩
  obtain rfl : p.thr (swapTs [] p.threads na nb) = p' := by simpa using hp'
  have hg : W1.grownBy (w2.setCell ⟨T, nb, none⟩ (.slice xa ma ya)) (rowOf u.t) := ⟨hT1'.os, hT1'.tape, hT1'.output, hT1'.size, fun q hq hne => hT1'.block q hq (fun hm => hne (by rw [eT]; simp at hm; rw [hm]; rfl))⟩
  have hinn := HO1.out.inner_rd hg
  refine ⟨u.thr (some ⟨T, 0, none⟩) u.nt u.ct, ?_, rdp_threads HO1.out hg HR.out.1 (by rw [swapTs_len]; exact HNT.out) (fun i hi => ?_)⟩
  · have := HK.out.grown hg (by rw [eT]; intro e; exact hQT (by cases e; rfl))
    rw [eT] at this
    exact this
  · rw [swapTs_len] at hi
    have hvl := HO1.out.ot.vlen
    have hnt := HNT.out
    have e := swapTs_get undef us na nb i (by omega) (by omega)
    have e2 := swapTs_get [] p.threads na nb i (by omega) (by omega)
    have e3 : (us.set na (.slice xb mb yb)).set nb (.slice xa ma ya) = swapTs undef us na nb := by unfold swapTs; rw [EXA.out, EXB.out]
    rw [e3, e, e2]
    split
    · exact hinn na (by omega)
    · split
      · exact hinn nb (by omega)
      · exact hinn i hi

theorem swapRes_ok {p : Pg} {a b : Int} (hs : SmallP p) (hp : 0 < p.threads.length) (h0 : 0 ≤ a) (h1 : a < p.threads.length) : ∀ p', swapRes p a b = some p' → SmallP p' ∧ 0 < p'.threads.length := by
  intro p' h
  unfold swapRes at h
  split at h
  · next hb =>
    obtain rfl : p.thr (swapTs [] p.threads a.toNat b.toNat) = p' := by simpa using h
    refine ⟨hs.thr (by rw [swapTs_len]; exact hs.lt) (fun i => ?_), by show 0 < (swapTs [] p.threads a.toNat b.toNat).length; rw [swapTs_len]; exact hp⟩
    rw [swapTs_get _ _ _ _ _ (by omega) (by omega)]
    split
    · exact hs.inn _
    · split
      · exact hs.inn _
      · exact hs.inn _
  · cases h

set_option maxRecDepth 100000 in
set_option maxHeartbeats 4000000 in
theorem implSwapThreads_any (v : PV) (p : Pg) (a b : Int) (w : World) (hr : RdP w v p) (hz : Small v p) :
    Calls Try.prog 33 #[.agg #[.slice v.s v.ns v.cs, .slice v.g v.ng v.cg, .slice v.b v.nb v.cb, .slice v.r v.nr v.cr, .slice v.t v.nt v.ct], .int .i64 a, .int .i64 b] w fun e w' => ∃ (u : PV) (us : List Value), e = .returned (.tuple #[.agg #[.slice u.s u.ns u.cs, .slice u.g u.ng u.cg, .slice u.b u.nb u.cb, .slice u.r u.nr u.cr, .slice u.t u.nt u.ct], .bool (swapThreads p a b).isSome]) ∧ OwnP w' u us ((swapThreads p a b).getD noPg).cells ∧ (fpP u us).Nodup ∧ (∀ k ∈ fpP u us, w.heap.size ≤ k) ∧ Below w.heap.size w w' := by
  have hsd := hz.data hr
  have HSD := Lib.hid hsd
  have hmf : ∀ (fn : Fn) (first cap : Array Value) (w : World), (Instr.makeFunc fn first cap).run Try.prog w = .ok (.func fn first cap) w := fun _ _ _ _ => rfl
  obtain ⟨W0, hW0⟩ : ∃ W0 : World, W0 = ((((w.alloc (.cells #[.slice v.s v.ns v.cs, .slice v.g v.ng v.cg, .slice v.b v.nb v.cb, .slice v.r v.nr v.cr, .slice v.t v.nt v.ct] 30)).alloc (.cells #[.int .i64 a] 3)).alloc (.cells #[.int .i64 b] 3)).alloc (.cells #[.slice none 0 0, .slice none 0 0, .slice none 0 0, .slice none 0 0, .slice none 0 0] 30)) := ⟨_, rfl⟩
  have b0 : Below w.heap.size w ((((w.alloc (.cells #[.slice v.s v.ns v.cs, .slice v.g v.ng v.cg, .slice v.b v.nb v.cb, .slice v.r v.nr v.cr, .slice v.t v.nt v.ct] 30)).alloc (.cells #[.int .i64 a] 3)).alloc (.cells #[.int .i64 b] 3)).alloc (.cells #[.slice none 0 0, .slice none 0 0, .slice none 0 0, .slice none 0 0, .slice none 0 0] 30)) := ((((Below.refl _ _).alloc (Nat.le_refl _) _).alloc (by simp) _).alloc (by simp; omega) _).alloc (by simp; omega) _
  have k0 : Blk ((((w.alloc (.cells #[.slice v.s v.ns v.cs, .slice v.g v.ng v.cg, .slice v.b v.nb v.cb, .slice v.r v.nr v.cr, .slice v.t v.nt v.ct] 30)).alloc (.cells #[.int .i64 a] 3)).alloc (.cells #[.int .i64 b] 3)).alloc (.cells #[.slice none 0 0, .slice none 0 0, .slice none 0 0, .slice none 0 0, .slice none 0 0] 30)) w.heap.size #[.slice v.s v.ns v.cs, .slice v.g v.ng v.cg, .slice v.b v.nb v.cb, .slice v.r v.nr v.cr, .slice v.t v.nt v.ct] 30 := (((Blk.new _ _ _).alloc _).alloc _).alloc _
  have k1 : Blk ((((w.alloc (.cells #[.slice v.s v.ns v.cs, .slice v.g v.ng v.cg, .slice v.b v.nb v.cb, .slice v.r v.nr v.cr, .slice v.t v.nt v.ct] 30)).alloc (.cells #[.int .i64 a] 3)).alloc (.cells #[.int .i64 b] 3)).alloc (.cells #[.slice none 0 0, .slice none 0 0, .slice none 0 0, .slice none 0 0, .slice none 0 0] 30)) (w.heap.size + 1) #[.int .i64 a] 3 := by simpa using ((Blk.new (w.alloc (.cells #[.slice v.s v.ns v.cs, .slice v.g v.ng v.cg, .slice v.b v.nb v.cb, .slice v.r v.nr v.cr, .slice v.t v.nt v.ct] 30)) #[.int .i64 a] 3).alloc (.cells #[.int .i64 b] 3)).alloc (.cells #[.slice none 0 0, .slice none 0 0, .slice none 0 0, .slice none 0 0, .slice none 0 0] 30)
  have k2 : Blk ((((w.alloc (.cells #[.slice v.s v.ns v.cs, .slice v.g v.ng v.cg, .slice v.b v.nb v.cb, .slice v.r v.nr v.cr, .slice v.t v.nt v.ct] 30)).alloc (.cells #[.int .i64 a] 3)).alloc (.cells #[.int .i64 b] 3)).alloc (.cells #[.slice none 0 0, .slice none 0 0, .slice none 0 0, .slice none 0 0, .slice none 0 0] 30)) (w.heap.size + 1 + 1) #[.int .i64 b] 3 := by simpa using (Blk.new ((w.alloc (.cells #[.slice v.s v.ns v.cs, .slice v.g v.ng v.cg, .slice v.b v.nb v.cb, .slice v.r v.nr v.cr, .slice v.t v.nt v.ct] 30)).alloc (.cells #[.int .i64 a] 3)) #[.int .i64 b] 3).alloc (.cells #[.slice none 0 0, .slice none 0 0, .slice none 0 0, .slice none 0 0, .slice none 0 0] 30)
  have kR : Blk ((((w.alloc (.cells #[.slice v.s v.ns v.cs, .slice v.g v.ng v.cg, .slice v.b v.nb v.cb, .slice v.r v.nr v.cr, .slice v.t v.nt v.ct] 30)).alloc (.cells #[.int .i64 a] 3)).alloc (.cells #[.int .i64 b] 3)).alloc (.cells #[.slice none 0 0, .slice none 0 0, .slice none 0 0, .slice none 0 0, .slice none 0 0] 30)) (w.heap.size + 1 + 1 + 1) #[.slice none 0 0, .slice none 0 0, .slice none 0 0, .slice none 0 0, .slice none 0 0] 30 := by simpa using Blk.new (((w.alloc (.cells #[.slice v.s v.ns v.cs, .slice v.g v.ng v.cg, .slice v.b v.nb v.cb, .slice v.r v.nr v.cr, .slice v.t v.nt v.ct] 30)).alloc (.cells #[.int .i64 a] 3)).alloc (.cells #[.int .i64 b] 3)) #[.slice none 0 0, .slice none 0 0, .slice none 0 0, .slice none 0 0, .slice none 0 0] 30
  have HW0 := Lib.hid hW0
  rw [← hW0] at b0 k0 k1 k2 kR
  clear hW0
  have q0 := k0.cell 0 rfl
  have q1 := k0.cell 1 rfl
  have q2 := k0.cell 2 rfl
  have q3 := k0.cell 3 rfl
  have q4 := k0.cell 4 rfl
  have ca := k1.cell 0 rfl
  have cb := k2.cell 0 rfl
  have hW := kR.lt
  have lt := Lib.hid hr.lt
  clear hsd
  go_enter Try.func33, Try.ntmps33
  go_wp2_with fail
  rw [← HW0.out]
  refine (change_any 65 #[.pointer (some ⟨w.heap.size + 1 + 1, 0, none⟩), .pointer (some ⟨w.heap.size + 1, 0, none⟩)] v p a (swapRes p a b) _ (enters_of Try.func65 (by kernel_rfl) rfl) (hr.below b0) hz
    (fun hv h0 h1 H hH => swapFn_any p a b H _ _ (keepc hH ca) (keepc hH cb) h0 h1 HSD.out.lt) (fun hv h0 h1 p' hp' => swapRes_ok HSD.out (by omega) h0 h1 p' hp')).mono ?_
  rintro e w1 ⟨u, us, rfl, ou, hnd, hfr, hb⟩
  have kR1 := kR.below hb
  have BE := b0.trans (hb.mono b0.size)
  have HO := Lib.hid ou
  have HFR := Lib.hid hfr
  have y0 := kR1.cell 0 rfl
  have x0 := kR1.fz 0
  have y1 := kR1.cell 1 rfl
  have x1 := kR1.fz 1
  have y2 := kR1.cell 2 rfl
  have x2 := kR1.fz 2
  have y3 := kR1.cell 3 rfl
  have x3 := kR1.fz 3
  have y4 := kR1.cell 4 rfl
  have x4 := kR1.fz 4
  clear ou hfr q0 q1 q2 q3 q4 ca cb k0 k1 k2 kR kR1
  go_wp2
  refine bodyPost_ret (v := .tuple #[.agg #[.slice u.s u.ns u.cs, .slice u.g u.ng u.cg, .slice u.b u.nb u.cb, .slice u.r u.nr u.cr, .slice u.t u.nt u.ct], .bool (swapThreads p a b).isSome]) (by simp [results, Try.results33, go_sem, y0, y1, y2, y3, y4, swapThreads]) rfl ⟨u, us, rfl, ?_, hnd, fun q hq => Nat.le_trans b0.size (HFR.out q hq), ?_⟩
  · refine HO.out.touch (S := [w.heap.size + 1 + 1 + 1]) ?_ (fun q hq hm => by have := HFR.out q hq; simp at hm; omega)
    exact Touch.set (Touch.set (Touch.set (Touch.set (Touch.set (Touch.refl _ _) (by simp)) (by simp)) (by simp)) (by simp)) (by simp)
  · exact ((((BE.setCell (by simp; omega) _).setCell (by simp; omega) _).setCell (by simp; omega) _).setCell (by simp; omega) _).setCell (by simp; omega) _

end Go.Proofs.Ytnobkdkfhgjeeaa
