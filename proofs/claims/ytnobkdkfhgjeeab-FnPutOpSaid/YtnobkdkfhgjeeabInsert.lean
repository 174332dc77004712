/- slices.Insert of one operation: the walk. -/
import Derived.Test.YtnobkdkfhgjeeabInsKit
namespace Go.Proofs.Ytnobkdkfhgjeeab
open Go.RowKit

theorem over_shift (i n : Nat) (hi : i < n) (cur X D : List Value) (hX : X.length = 3) (hD : D.length = (n - i) * 3) (hc : (n + 1) * 3 ≤ cur.length) :
    (over (i * 3) X (over ((i + 1) * 3) D cur)).take ((n + 1) * 3) = cur.take (i * 3) ++ X ++ D := by
  have e1 : (cur.take ((i + 1) * 3)).length = (i + 1) * 3 := by rw [List.length_take]; omega
  have h : over ((i + 1) * 3) D cur = cur.take ((i + 1) * 3) ++ (D ++ cur.drop ((i + 1) * 3 + D.length)) := by unfold over; rw [List.append_assoc]
  have e2 : i * 3 + X.length = (cur.take ((i + 1) * 3)).length := by omega
  have A1 : (over ((i + 1) * 3) D cur).take (i * 3) = cur.take (i * 3) := by rw [h, List.take_append_of_le_length (by omega), List.take_take, Nat.min_eq_left (by omega)]
  have A2 : (over ((i + 1) * 3) D cur).drop (i * 3 + X.length) = D ++ cur.drop ((i + 1) * 3 + D.length) := by rw [h, e2, List.drop_left' rfl]
  have e3 : (cur.take (i * 3)).length = i * 3 := by rw [List.length_take]; omega
  show ((over ((i + 1) * 3) D cur).take (i * 3) ++ X ++ (over ((i + 1) * 3) D cur).drop (i * 3 + X.length)).take _ = _
  rw [A1, A2, ← List.append_assoc, List.take_left' (by rw [List.length_append, List.length_append, e3, hX, hD]; omega)]
theorem over_grow (i n : Nat) (hi : i < n) (cs X D : List Value) (hX : X.length = 3) (hD : D.length = (n - i) * 3) (hc : cs.length = (n + 1) * 3) :
    over ((i + 1) * 3) D (over (i * 3) X cs) = cs.take (i * 3) ++ X ++ D := by
  have e3 : (cs.take (i * 3)).length = i * 3 := by rw [List.length_take]; omega
  have e4 : (cs.take (i * 3) ++ X).length = (i + 1) * 3 := by rw [List.length_append, e3, hX]; omega
  have h : over (i * 3) X cs = (cs.take (i * 3) ++ X) ++ cs.drop (i * 3 + X.length) := rfl
  rw [h]
  unfold over
  rw [List.take_left' e4, List.drop_eq_nil_of_le (by rw [List.length_append, e4, List.length_drop]; omega), List.append_nil]

/-- What the insertion leaves. -/
def Inserted (a : Option Addr) (l : List OpD) (i n : Nat) (x : OpD) (w : World) (e : Ending) (w' : World) : Prop :=
  ∃ a' c', e = .returned (.slice a' (n + 1) c') ∧ w'.ownsRow 0 44 3 (.slice a' (n + 1) c') (n + 1) (opsV (l.insertIdx i x)) ∧ w.grownBy w' (rowOf a)

set_option maxRecDepth 100000 in
set_option maxHeartbeats 4000000 in
theorem insertOps_end (a : Option Addr) (n c vb vc : Nat) (l : List OpD) (x : OpD) (w : World) (ho : w.ownsRow 0 44 3 (.slice a n c) n (opsV l)) (hn : n ≤ 1048576) (hv : Rd w (some ⟨vb, 0, none⟩) (opv x)) :
    Calls Try.prog 55 #[.slice a n c, .int .i64 n, .slice (some ⟨vb, 0, none⟩) 1 vc] w (Inserted a l n n x w) := by
  have hl : l.length = n := by have := ho.1; rw [opsV_len] at this; omega
  have HL := Lib.hid hl
  have hz : (((1 : Nat) : Int) == 0) = false := rfl
  have one : ∀ u ∈ opv x, u.oneCell' = true := by intro u hu; simp only [opv, List.mem_cons, List.not_mem_nil, or_false] at hu; rcases hu with rfl | rfl | rfl <;> rfl
  have ONE := Lib.hid one
  have HV := Lib.hid hv
  have e : opsV l ++ opv x = opsV (l.insertIdx n x) := by rw [opsV_insert l n x (by omega), List.take_of_length_le (by rw [opsV_len]; omega), List.drop_eq_nil_of_le (by rw [opsV_len]; omega), List.append_nil]
  have HE := Lib.hid e
  have i0 : (0 : Int) ≤ (n : Int) := by omega
  clear hl one hv e
  cases a with
  | none =>
    have hn0 : n = 0 ∧ c = 0 := by
      rcases ho.2 with ⟨h', h0⟩ | ⟨g', cap', cur, h', _⟩
      · simp only [Value.slice.injEq] at h'; omega
      · cases h'
    obtain ⟨rfl, rfl⟩ := hn0
    go_enter Try.func55, Try.ntmps55
    go_wp2_with (at_builtin; refine wpList_append_rd (news := opv x) rfl _ _ 34 rfl Try.underlying34 info_op rfl (by decide) rfl ho rfl (by rw [opv_len]) HV.out ONE.out (by omega) (by decide) (Nat.zero_le _) ?_; intro a1 c1 w1 hown1 hgr1; clear ho)
    go_ret
    exact ⟨a1, c1, rfl, by rw [← HE.out]; exact hown1, hgr1⟩
  | some ad =>
    obtain ⟨hnc, hcm⟩ : n ≤ c ∧ c ≤ maxLen := by
      rcases ho.2 with ⟨h', _⟩ | ⟨g', cap', cur, h', _, _, h1, h2, _⟩
      · cases h'
      · cases h'; exact ⟨h1, h2⟩
    have hc63 : c ≤ 9223372036854775807 := hcm
    clear hcm
    by_cases hcn : c = n
    · subst hcn
      go_enter Try.func55, Try.ntmps55
      go_wp2_with (at_builtin; refine wpList_append_rd (news := opv x) rfl _ _ 34 rfl Try.underlying34 info_op rfl (by decide) rfl ho rfl (by rw [opv_len]) HV.out ONE.out (by omega) (by decide) (Nat.zero_le _) ?_; intro a1 c1 w1 hown1 hgr1; clear ho)
      go_ret
      exact ⟨a1, c1, rfl, by rw [← HE.out]; exact hown1, hgr1⟩
    · have i1 : (n : Int) ≤ (c : Int) := by omega
      go_enter Try.func55, Try.ntmps55
      go_wp2_with (at_builtin; refine wpList_append_rd (news := opv x) rfl _ _ 34 rfl Try.underlying34 info_op rfl (by decide) rfl ho rfl (by rw [opv_len]) HV.out ONE.out (by omega) (by decide) (Nat.zero_le _) ?_; intro a1 c1 w1 hown1 hgr1; clear ho)
      go_ret
      exact ⟨a1, c1, rfl, by rw [← HE.out]; exact hown1, hgr1⟩

set_option maxRecDepth 100000 in
set_option maxHeartbeats 4000000 in
theorem insertOps_shift (X n c i vb vc : Nat) (l : List OpD) (x : OpD) (w : World) (ho : w.ownsRow 0 44 3 (.slice (some ⟨X, 0, none⟩) n c) n (opsV l)) (hn : n ≤ 1048576) (hi : i < n) (hroom : n + 1 ≤ c)
    (hv : Blk w vb #[.int .i64 x.kind, .int .i64 x.on, .int .i64 x.arg] 44) (hne : vb ≠ X) :
    Calls Try.prog 55 #[.slice (some ⟨X, 0, none⟩) n c, .int .i64 i, .slice (some ⟨vb, 0, none⟩) 1 vc] w (Inserted (some ⟨X, 0, none⟩) l i n x w) := by
  have hl : l.length = n := by have := ho.1; rw [opsV_len] at this; omega
  have HL := Lib.hid hl
  obtain ⟨cur, hf, htk, hnc, hcm, hcl⟩ := owns_full ho
  have hc63 : c ≤ 9223372036854775807 := hcm
  obtain ⟨curA, hXh, hXs⟩ := owns_cells ho
  have hsz : (Try.prog.info? 44).map (·.size) = some 3 := by kernel_rfl
  have hov : (callFunc 92 #[.slice (some ⟨vb, 0, none⟩) 1 vc, .slice (some ⟨X, (i + 1) * 3, none⟩) (n - i) (c - (i + 1))]).run Try.prog w = .ok (.value (.bool false)) w := by
    rw [run_callFunc_extern Try.func92 (by kernel_rfl) (by kernel_rfl) (by kernel_rfl) (e := Extern.SlicesOverlaps.overlaps #[34, 34] #[4]) (by kernel_rfl),
      Lib.run_overlaps_apart w 34 4 44 Try.underlying34 3 (fun _ => by kernel_rfl) ⟨vb, 0, none⟩ ⟨X, (i + 1) * 3, none⟩ 1 vc (n - i) (c - (i + 1)) hne 44 44 3 curA.size
        (by unfold World.shape?; rw [show w.heap[vb]? = _ from hv]; rfl) (by unfold World.shape?; rw [hXh]) (by omega) (hv.fz 0) (hv.fz 3)]
    rfl
  have hz : (((1 : Nat) : Int) == 0) = false := rfl
  have n0 : ¬ c = i := by omega
  have n1 : ¬ c = i + 1 := by omega
  have i0 : (0 : Int) ≤ (i : Int) := by omega
  have i1 : (i : Int) ≤ (n : Int) := by omega
  have i2 : ((i : Int) == (n : Int)) = false := by simp; omega
  have i3 : decide ((c : Int) < (n : Int) + 1) = false := by simp; omega
  have i4 : (0 : Int) ≤ (n : Int) + 1 := by omega
  have i5 : (n : Int) + 1 ≤ (c : Int) := by omega
  have i6 : (0 : Int) ≤ (i : Int) + 1 := by omega
  have i7 : (i : Int) + 1 ≤ (n : Int) + 1 := by omega
  have i8 : (i : Int) ≤ (n : Int) + 1 := by omega
  have i9 : n + 1 - (i + 1) = n - i := by omega
  have hwr : IntKind.i64.wrap ((i : Int) + 1) = (i : Int) + 1 := Go.IntWalk.i64_in _ (by omega)
  have HI9 := Lib.hid i9
  have HF := Lib.hid hf
  have HTK := Lib.hid htk
  have HCL := Lib.hid hcl
  have HVB := Lib.hid hv
  have HO := Lib.hid ho
  clear hl hf htk hcl hv ho hXh hXs hcm hnc i9
  go_enter Try.func55, Try.ntmps55
  go_wp2_with (simp only [hov])
  refine wp_region_fresh 8 (by kernel_rfl) (by kernel_rfl) [fun dz uz wz => uz = .slice (some ⟨X, 0, none⟩) (n + 1) c, fun dz uz wz => uz = .int .i64 i, fun dz uz wz => uz = .int .i64 1, fun dz uz wz => uz = .int .i64 ((i : Int) + 1), fun dz uz wz => uz = .slice (some ⟨X, (i + 1) * 3, none⟩) (n + 1 - (i + 1)) (c - (i + 1)), fun dz uz wz => uz = .slice (some ⟨X, 0, none⟩) (n + 1) c, fun dz uz wz => uz = .int .i64 i, fun dz uz wz => uz = .slice (some ⟨X, i * 3, none⟩) (n + 1 - i) (c - i)] (fun i => match i with | _ => fun _ => none) (fun w' => Below w.heap.size w w') (Below.refl _ _).drew (stab_of ⟨fun _ _ _ _ _ h => h, fun _ _ _ _ _ h => h, fun _ _ _ _ _ h => h, fun _ _ _ _ _ h => h, fun _ _ _ _ _ h => h, fun _ _ _ _ _ h => h, fun _ _ _ _ _ h => h, fun _ _ _ _ _ h => h, trivial⟩) ?_ ?_
  · simp only [List.take_succ_cons, List.take_zero]
    refine ⟨?_, ?_, ?_, ?_, ?_, ?_, ?_, ?_, trivial⟩
    · intro ρ w1 hG hfr hd
      have fc : ∀ z, ρ (.const z) = z := fun _ => hfr _ rfl
      have ff : ∀ z, ρ (.func z) = .func (.func z) #[] #[] := fun _ => hfr _ rfl
      have f0 : ρ (.tmp 0) = .slice (some ⟨X, 0, none⟩) (n + 1) c := hfr _ rfl
      refine gives_val (u := .slice (some ⟨X, 0, none⟩) (n + 1) c) (w' := w1) (by go_simp) ⟨Below.refl _ _, rfl, (fun _ hk => by cases hk), hG⟩
    · intro ρ w1 hG hfr hd
      have fc : ∀ z, ρ (.const z) = z := fun _ => hfr _ rfl
      have ff : ∀ z, ρ (.func z) = .func (.func z) #[] #[] := fun _ => hfr _ rfl
      have f1 : ρ (.tmp 1) = .int .i64 i := hfr _ rfl
      refine gives_val (u := .int .i64 i) (w' := w1) (by go_simp) ⟨Below.refl _ _, rfl, (fun _ hk => by cases hk), hG⟩
    · intro ρ w1 hG hfr hd
      have fc : ∀ z, ρ (.const z) = z := fun _ => hfr _ rfl
      have ff : ∀ z, ρ (.func z) = .func (.func z) #[] #[] := fun _ => hfr _ rfl
      have f7 : ρ (.tmp 7) = .int .i64 1 := hfr _ rfl
      refine gives_val (u := .int .i64 1) (w' := w1) (by go_simp) ⟨Below.refl _ _, rfl, (fun _ hk => by cases hk), hG⟩
    · intro ρ w1 hG hfr hd
      have fc : ∀ z, ρ (.const z) = z := fun _ => hfr _ rfl
      have ff : ∀ z, ρ (.func z) = .func (.func z) #[] #[] := fun _ => hfr _ rfl
      obtain ⟨d0, d1, -⟩ := hd
      have d0 : (ρ (.tmp 70)) = .int .i64 i := d0
      have d1 : (ρ (.tmp 71)) = .int .i64 1 := d1
      refine gives_val (u := .int .i64 ((i : Int) + 1)) (w' := w1) (by go_simp) ⟨Below.refl _ _, rfl, (fun _ hk => by cases hk), hG⟩
    · intro ρ w1 hG hfr hd
      have fc : ∀ z, ρ (.const z) = z := fun _ => hfr _ rfl
      have ff : ∀ z, ρ (.func z) = .func (.func z) #[] #[] := fun _ => hfr _ rfl
      obtain ⟨d0, d1, -⟩ := hd
      have d0 : (ρ (.tmp 69)) = .slice (some ⟨X, 0, none⟩) (n + 1) c := d0
      have d1 : (ρ (.tmp 72)) = .int .i64 ((i : Int) + 1) := d1
      refine gives_val (u := .slice (some ⟨X, (i + 1) * 3, none⟩) (n + 1 - (i + 1)) (c - (i + 1))) (w' := w1) (by go_simp) ⟨Below.refl _ _, rfl, (fun _ hk => by cases hk), hG⟩
    · intro ρ w1 hG hfr hd
      have fc : ∀ z, ρ (.const z) = z := fun _ => hfr _ rfl
      have ff : ∀ z, ρ (.func z) = .func (.func z) #[] #[] := fun _ => hfr _ rfl
      have f0 : ρ (.tmp 0) = .slice (some ⟨X, 0, none⟩) (n + 1) c := hfr _ rfl
      refine gives_val (u := .slice (some ⟨X, 0, none⟩) (n + 1) c) (w' := w1) (by go_simp) ⟨Below.refl _ _, rfl, (fun _ hk => by cases hk), hG⟩
    · intro ρ w1 hG hfr hd
      have fc : ∀ z, ρ (.const z) = z := fun _ => hfr _ rfl
      have ff : ∀ z, ρ (.func z) = .func (.func z) #[] #[] := fun _ => hfr _ rfl
      have f1 : ρ (.tmp 1) = .int .i64 i := hfr _ rfl
      refine gives_val (u := .int .i64 i) (w' := w1) (by go_simp) ⟨Below.refl _ _, rfl, (fun _ hk => by cases hk), hG⟩
    · intro ρ w1 hG hfr hd
      have fc : ∀ z, ρ (.const z) = z := fun _ => hfr _ rfl
      have ff : ∀ z, ρ (.func z) = .func (.func z) #[] #[] := fun _ => hfr _ rfl
      obtain ⟨d0, d1, -⟩ := hd
      have d0 : (ρ (.tmp 74)) = .slice (some ⟨X, 0, none⟩) (n + 1) c := d0
      have d1 : (ρ (.tmp 75)) = .int .i64 i := d1
      refine gives_val (u := .slice (some ⟨X, i * 3, none⟩) (n + 1 - i) (c - i)) (w' := w1) (by go_simp) ⟨Below.refl _ _, rfl, (fun _ hk => by cases hk), hG⟩
  intro vs w2 hG hlen hall hap hbd
  obtain ⟨xv0, vs0, rfl, hl0⟩ := len_cons hlen
  obtain ⟨xv1, vs1, rfl, hl1⟩ := len_cons hl0
  obtain ⟨xv2, vs2, rfl, hl2⟩ := len_cons hl1
  obtain ⟨xv3, vs3, rfl, hl3⟩ := len_cons hl2
  obtain ⟨xv4, vs4, rfl, hl4⟩ := len_cons hl3
  obtain ⟨xv5, vs5, rfl, hl5⟩ := len_cons hl4
  obtain ⟨xv6, vs6, rfl, hl6⟩ := len_cons hl5
  obtain ⟨xv7, vs7, rfl, hl7⟩ := len_cons hl6
  obtain rfl := len_nil hl7
  clear hlen hl0 hl1 hl2 hl3 hl4 hl5 hl6 hl7
  simp only [List.take_succ_cons, List.take_zero, List.drop_succ_cons, List.drop_zero] at hall ⊢
  obtain ⟨t0', t1', t2', t3', t4', t5', t6', t7', -⟩ := hall
  have hv0 : xv0 = .slice (some ⟨X, 0, none⟩) (n + 1) c := t0'
  have hv1 : xv1 = .int .i64 i := t1'
  have hv2 : xv2 = .int .i64 1 := t2'
  have hv3 : xv3 = .int .i64 ((i : Int) + 1) := t3'
  have hv4 : xv4 = .slice (some ⟨X, (i + 1) * 3, none⟩) (n + 1 - (i + 1)) (c - (i + 1)) := t4'
  have hv5 : xv5 = .slice (some ⟨X, 0, none⟩) (n + 1) c := t5'
  have hv6 : xv6 = .int .i64 i := t6'
  have hv7 : xv7 = .slice (some ⟨X, i * 3, none⟩) (n + 1 - i) (c - i) := t7'
  clear t0' t1' t2' t3' t4' t5' t6' t7'
  clear hap hbd
  subst hv0 hv1 hv2 hv3 hv4 hv5 hv6 hv7
  simp only [putAll, Act.put, List.setIfInBounds_toArray, List.set_cons_succ, List.set_cons_zero]
  have hf2 := owns_below HF.out hG
  have hcl := HCL.out
  have hvb := HVB.out.below hG
  obtain ⟨D, hD⟩ : ∃ D, D = (opsV l).drop (i * 3) := ⟨_, rfl⟩
  have hDl : D.length = (n - i) * 3 := by rw [hD, List.length_drop, opsV_len, HL.out]; omega
  have hD1 : ∀ u ∈ D, u.oneCell' = true := fun u hu => opsV_one l u (List.mem_of_mem_drop (by rw [← hD]; exact hu))
  have hoc : (opsV l).length = n * 3 := by rw [opsV_len, HL.out]
  have hcc : (n + 1) * 3 ≤ c * 3 := Nat.mul_le_mul_right 3 hroom
  obtain ⟨W1, hW1⟩ : ∃ W1, W1 = w2.setCells X ((i + 1) * 3) D := ⟨_, rfl⟩
  have hcp1 : ∀ ty, (Builtin.copy_ #[34, 34] ty #[.slice (some ⟨X, (i + 1) * 3, none⟩) (n + 1 - (i + 1)) (c - (i + 1)), .slice (some ⟨X, i * 3, none⟩) (n + 1 - i) (c - i)]).run Try.prog w2 = .ok (goInt ((n - i : Nat) : Int)) W1 := fun ty => by
    rw [hW1]
    exact run_copy_wide w2 34 34 ty 44 3 X ((i + 1) * 3) (n + 1 - (i + 1)) (c - (i + 1)) ⟨X, i * 3, none⟩ (n + 1 - i) (c - i) (n - i) D Try.underlying34 hsz (by simp only [Nat.min_def]; split <;> omega) hDl
      (fun j u hj => by
        have hjl : j < D.length := (List.getElem?_eq_some_iff.1 hj).1
        rw [Addr.add_lit, hf2.cellAt _ (by omega)]
        rw [hD, List.getElem?_drop, ← HTK.out, List.getElem?_take_of_lt (by omega)] at hj
        exact hj)
      (fun j hj => by rw [hf2.cellAt _ (by omega), List.getElem?_eq_getElem (by omega)]; rfl) (fun j _ => hf2.frozenAt _) hD1
  have R1 := owns_setCells D ((i + 1) * 3) w2 cur hf2 (by omega)
  rw [← hW1] at R1
  have hol : (over ((i + 1) * 3) D cur).length = c * 3 := by have := R1.1.1; omega
  have hvb1 : Blk W1 vb #[.int .i64 x.kind, .int .i64 x.on, .int .i64 x.arg] 44 := by
    unfold Blk
    rw [R1.2.block vb hvb.lt (by simpa using hne)]
    exact hvb
  have one : ∀ u ∈ opv x, u.oneCell' = true := by intro u hu; simp only [opv, List.mem_cons, List.not_mem_nil, or_false] at hu; rcases hu with rfl | rfl | rfl <;> rfl
  obtain ⟨W2, hW2⟩ : ∃ W2, W2 = W1.setCells X (i * 3) (opv x) := ⟨_, rfl⟩
  have hcp2 : ∀ ty, (Builtin.copy_ #[34, 34] ty #[.slice (some ⟨X, i * 3, none⟩) (n + 1 - i) (c - i), .slice (some ⟨vb, 0, none⟩) 1 vc]).run Try.prog W1 = .ok (goInt 1) W2 := fun ty => by
    rw [hW2]
    exact run_copy_wide W1 34 34 ty 44 3 X (i * 3) (n + 1 - i) (c - i) ⟨vb, 0, none⟩ 1 vc 1 (opv x) Try.underlying34 hsz (by simp only [Nat.min_def]; split <;> omega) (by rw [opv_len])
      (fun j u hj => by
        have hjl : j < 3 := (List.getElem?_eq_some_iff.1 hj).1
        rw [Addr.add_lit, Nat.zero_add]
        match j, hjl with
        | 0, _ => rw [hvb1.cell 0 rfl]; simpa [opv] using hj
        | 1, _ => rw [hvb1.cell 1 rfl]; simpa [opv] using hj
        | 2, _ => rw [hvb1.cell 2 rfl]; simpa [opv] using hj)
      (fun j hj => by have hj' : j < 3 := hj; rw [R1.1.cellAt _ (by omega), List.getElem?_eq_getElem (by omega)]; rfl) (fun j _ => R1.1.frozenAt _) one
  have R2 := owns_setCells (opv x) (i * 3) W1 _ R1.1 (by rw [opv_len]; omega)
  rw [← hW2] at R2
  have R3 := owns_cut R2.1 hroom
  have eF := over_shift i n hi cur (opv x) D (opv_len x) hDl (by omega)
  have eA : cur.take (i * 3) = (opsV l).take (i * 3) := by rw [← HTK.out, List.take_take, Nat.min_eq_left (by omega)]
  rw [eF, eA, hD, ← opsV_insert l i x (by rw [HL.out]; omega)] at R3
  have HR := Lib.hid R3
  have HGR := Lib.hid (grown_trans (grown_below hG) (grown_trans R1.2 R2.2))
  clear R1 R2 R3 eF eA hD hDl hD1 hoc hcc hW1 hW2 hol hvb1 one hf2 hcl hvb hG
  go_wp2_with (first | refine wpList_copy_at rfl (.tmp 73) (.tmp 76) 34 34 rfl rfl rfl hcp1 ?_ | refine wpList_copy_at rfl (.tmp 80) (.tmp 81) 34 34 rfl rfl rfl hcp2 ?_)
  go_ret
  exact ⟨some ⟨X, 0, none⟩, c, rfl, HR.out, HGR.out⟩

set_option maxRecDepth 100000 in
set_option maxHeartbeats 4000000 in
theorem insertOps_grow (X n c i vb vc : Nat) (l : List OpD) (x : OpD) (w : World) (ho : w.ownsRow 0 44 3 (.slice (some ⟨X, 0, none⟩) n c) n (opsV l)) (hn : n ≤ 1048576) (hi : i < n) (hroom : c < n + 1)
    (hv : Blk w vb #[.int .i64 x.kind, .int .i64 x.on, .int .i64 x.arg] 44) :
    Calls Try.prog 55 #[.slice (some ⟨X, 0, none⟩) n c, .int .i64 i, .slice (some ⟨vb, 0, none⟩) 1 vc] w (Inserted (some ⟨X, 0, none⟩) l i n x w) := by
  have hl : l.length = n := by have := ho.1; rw [opsV_len] at this; omega
  have HL := Lib.hid hl
  have hnc : n ≤ c := by obtain ⟨cur, hf, htk, hnc, hcm, hcl⟩ := owns_full ho; exact hnc
  have hsz : (Try.prog.info? 44).map (·.size) = some 3 := by kernel_rfl
  obtain ⟨i0, hi0, hz0, hzs, hzb⟩ := info_parts info_op
  have hoc : (opsV l).length = n * 3 := by rw [opsV_len, hl]
  have hXl := (owns_row ho X rfl).2
  have hold : (Builtin.firstCells i0.size i (.slice (some ⟨X, 0, none⟩) i c)).run Try.prog w.drew = .ok ((opsV l).take (i * 3)).toArray w.drew := by
    rw [hzs]
    exact run_firstCells_some (P := Try.prog) w.drew 3 i ⟨X, 0, none⟩ i c ((opsV l).take (i * 3)) (by rw [List.length_take]; omega) (fun j u hj => by
      have hjl : j < i * 3 := by have := (List.getElem?_eq_some_iff.1 hj).1; rw [List.length_take] at this; omega
      rw [Addr.add_lit, Nat.zero_add]
      have hc := ho.cellAt j (by omega)
      rw [List.getElem?_take_of_lt (by omega)] at hj
      exact hc.trans hj)
  have hkk : (n : Int) + 1 - (i : Int) = ((n + 1 - i : Nat) : Int) := by omega
  have hik : i + (n + 1 - i) = n + 1 := by omega
  obtain ⟨z, hz⟩ : ∃ z : Value, z = .agg #[.int .i64 0, .int .i64 0, .int .i64 0] := ⟨_, rfl⟩
  rw [← hz] at hz0
  have hzc : z.cells.size = 3 := by rw [hz]; rfl
  obtain ⟨G, hG⟩ : ∃ G, G = grownCap w (n + 1) c 44 := ⟨_, rfl⟩
  have hGn : n + 1 ≤ G := by rw [hG]; exact grownCap_ge w _ _ _
  have hGm : G ≤ maxLen := by rw [hG]; exact grownCap_le_maxLen w (n + 1) c 44 (by unfold maxLen; omega)
  have hG63 : G ≤ 9223372036854775807 := hGm
  obtain ⟨ROW, hROW⟩ : ∃ ROW : Array Value, ROW = ((opsV l).take (i * 3)).toArray ++ Builtin.zeroCells z.cells (n + 1 - i) ++ Builtin.zeroCells z.cells (G - (n + 1)) := ⟨_, rfl⟩
  obtain ⟨W1, hW1⟩ : ∃ W1, W1 = w.drew.alloc (.cells ROW 44) := ⟨_, rfl⟩
  have hrz : ∀ ty, (Builtin.append_ #[34, 3] ty #[.slice (some ⟨X, 0, none⟩) i c, .int .i64 ((n : Int) + 1 - (i : Int))]).run Try.prog w = .ok (.slice (some ⟨w.heap.size, 0, none⟩) (n + 1) G) W1 := fun ty => by
    have h := Lib.run_append_grow_zeros w 34 3 ty 44 i0 z .i64 .i64 Try.underlying34 Try.underlying3 hi0 hz0 (some ⟨X, 0, none⟩) i c ((opsV l).take (i * 3)) hold (n + 1 - i) (by omega) (by omega) (by omega) (by omega) (by rw [hzb]; omega) (by rw [hzb, hik]; exact growslice_fits (by omega) (by omega))
    rw [hik, ← hG, ← hROW, ← hW1] at h
    rw [hkk]
    exact h
  obtain ⟨cs0, hcs0⟩ : ∃ cs0, cs0 = (opsV l).take (i * 3) ++ (Builtin.zeroCells z.cells (n + 1 - i)).toList := ⟨_, rfl⟩
  have hzl : (Builtin.zeroCells z.cells (n + 1 - i)).toList.length = (n + 1 - i) * 3 := by rw [Array.length_toList, size_zeroCells, hzc]
  have hcl0 : cs0.length = (n + 1) * 3 := by rw [hcs0, List.length_append, List.length_take, hzl]; omega
  have R0 : W1.ownsRow w.heap.size 44 3 (.slice (some ⟨w.heap.size, 0, none⟩) (n + 1) G) (n + 1) cs0 := by
    refine ⟨hcl0, .inr ⟨w.heap.size, G, ROW, rfl, Nat.le_refl _, by rw [hW1]; exact heap_alloc_new w.drew _, hGn, hGm, ?_, ?_⟩⟩
    · rw [hROW]
      simp only [Array.size_append, List.size_toArray, size_zeroCells, hzc, List.length_take, hoc]
      omega
    · rw [hROW, Array.toList_append, Array.toList_append, List.take_left' (by rw [List.length_append, hzl]; show (List.take (i * 3) (opsV l)).length + _ = _; rw [List.length_take]; omega), hcs0]
  have hg1 : w.grownBy W1 none := by rw [hW1]; exact ⟨rfl, rfl, rfl, by simp, fun k hk _ => heap_alloc_old w.drew _ hk⟩
  have ho1 := owns_grown ho hg1 (fun _ _ h => by cases h)
  have hv1 := hv.grown hg1 (by simp)
  have e0 : cs0.take (i * 3) = (opsV l).take (i * 3) := by rw [hcs0, List.take_left' (by rw [List.length_take]; omega)]
  have one : ∀ u ∈ opv x, u.oneCell' = true := by intro u hu; simp only [opv, List.mem_cons, List.not_mem_nil, or_false] at hu; rcases hu with rfl | rfl | rfl <;> rfl
  obtain ⟨N, hN⟩ : ∃ N, N = w.heap.size := ⟨_, rfl⟩
  have hvl := hv.lt
  rw [← hN] at hrz R0 hXl hvl
  obtain ⟨W2, hW2⟩ : ∃ W2, W2 = W1.setCells N (i * 3) (opv x) := ⟨_, rfl⟩
  have hcp1 : ∀ ty, (Builtin.copy_ #[34, 34] ty #[.slice (some ⟨N, i * 3, none⟩) (n + 1 - i) (G - i), .slice (some ⟨vb, 0, none⟩) 1 vc]).run Try.prog W1 = .ok (goInt 1) W2 := fun ty => by
    rw [hW2]
    exact run_copy_wide W1 34 34 ty 44 3 N (i * 3) (n + 1 - i) (G - i) ⟨vb, 0, none⟩ 1 vc 1 (opv x) Try.underlying34 hsz (by simp only [Nat.min_def]; split <;> omega) (by rw [opv_len])
      (fun j u hj => by
        have hjl : j < 3 := (List.getElem?_eq_some_iff.1 hj).1
        rw [Addr.add_lit, Nat.zero_add]
        match j, hjl with
        | 0, _ => rw [hv1.cell 0 rfl]; simpa [opv] using hj
        | 1, _ => rw [hv1.cell 1 rfl]; simpa [opv] using hj
        | 2, _ => rw [hv1.cell 2 rfl]; simpa [opv] using hj)
      (fun j hj => by have hj' : j < 3 := hj; rw [R0.cellAt _ (by omega), List.getElem?_eq_getElem (by omega)]; rfl) (fun j _ => R0.frozenAt _) one
  have R1 := owns_setCells (opv x) (i * 3) W1 cs0 R0 (by rw [opv_len]; omega)
  rw [← hW2] at R1
  have ho2 := owns_grown ho1 R1.2 (fun k h1 h2 => by simp [rowOf] at h1; simp at h2; omega)
  have n0 : ¬ c = i := by omega
  have n2 : ¬ G = i := by omega
  have n3 : ¬ G = i + 1 := by omega
  have hzz : (((1 : Nat) : Int) == 0) = false := rfl
  have j0 : (0 : Int) ≤ (i : Int) := by omega
  have j1 : (i : Int) ≤ (n : Int) := by omega
  have j2 : ((i : Int) == (n : Int)) = false := by simp; omega
  have j3 : decide ((c : Int) < (n : Int) + 1) = true := by simp; omega
  have j4 : (i : Int) ≤ (c : Int) := by omega
  have j5 : (i : Int) ≤ (n : Int) + 1 := by omega
  have j6 : (i : Int) + 1 ≤ (n : Int) + 1 := by omega
  have j7 : (n : Int) + 1 ≤ (G : Int) := by omega
  have j8 : (0 : Int) ≤ (i : Int) + 1 := by omega
  have hwr : IntKind.i64.wrap ((i : Int) + 1) = (i : Int) + 1 := Go.IntWalk.i64_in _ (by omega)
  have HR1 := Lib.hid R1.1
  have HO2 := Lib.hid ho2
  have HE0 := Lib.hid e0
  have HCL0 := Lib.hid hcl0
  have HOC := Lib.hid hoc
  have HG2 := Lib.hid (grown_trans (row := (none : Option Nat)) hg1 (World.grownBy.refl _ _))
  have HRG := Lib.hid R1.2
  have HNN := Lib.hid hN
  clear hl hzl hoc hold hkk hik hz0 hzs hzb hi0 hz hzc hG hROW hW1 hcs0 hcl0 R0 hg1 ho1 hv1 e0 one hW2 R1 ho2 ho hv hN hGm hXl hvl
  go_enter Try.func55, Try.ntmps55
  go_wp2_with (first | refine wpList_append_at2 rfl (.tmp 34) (.tmp 39) 34 3 rfl rfl rfl hrz ?_ | refine wpList_copy_at rfl (.tmp 43) (.tmp 44) 34 34 rfl rfl rfl hcp1 ?_)
  refine wp_region_fresh 8 (by kernel_rfl) (by kernel_rfl) [fun dz uz wz => uz = .slice (some ⟨N, 0, none⟩) (n + 1) G, fun dz uz wz => uz = .int .i64 i, fun dz uz wz => uz = .int .i64 1, fun dz uz wz => uz = .int .i64 ((i : Int) + 1), fun dz uz wz => uz = .slice (some ⟨N, (i + 1) * 3, none⟩) (n + 1 - (i + 1)) (G - (i + 1)), fun dz uz wz => uz = .slice (some ⟨X, 0, none⟩) n c, fun dz uz wz => uz = .int .i64 i, fun dz uz wz => uz = .slice (some ⟨X, i * 3, none⟩) (n - i) (c - i)] (fun i => match i with | _ => fun _ => none) (fun w' => Below W2.heap.size W2 w') (Below.refl _ _).drew (stab_of ⟨fun _ _ _ _ _ h => h, fun _ _ _ _ _ h => h, fun _ _ _ _ _ h => h, fun _ _ _ _ _ h => h, fun _ _ _ _ _ h => h, fun _ _ _ _ _ h => h, fun _ _ _ _ _ h => h, fun _ _ _ _ _ h => h, trivial⟩) ?_ ?_
  · simp only [List.take_succ_cons, List.take_zero]
    refine ⟨?_, ?_, ?_, ?_, ?_, ?_, ?_, ?_, trivial⟩
    · intro ρ w1 hG hfr hd
      have fc : ∀ z, ρ (.const z) = z := fun _ => hfr _ rfl
      have ff : ∀ z, ρ (.func z) = .func (.func z) #[] #[] := fun _ => hfr _ rfl
      have f9 : ρ (.tmp 9) = .slice (some ⟨N, 0, none⟩) (n + 1) G := hfr _ rfl
      refine gives_val (u := .slice (some ⟨N, 0, none⟩) (n + 1) G) (w' := w1) (by go_simp) ⟨Below.refl _ _, rfl, (fun _ hk => by cases hk), hG⟩
    · intro ρ w1 hG hfr hd
      have fc : ∀ z, ρ (.const z) = z := fun _ => hfr _ rfl
      have ff : ∀ z, ρ (.func z) = .func (.func z) #[] #[] := fun _ => hfr _ rfl
      have f1 : ρ (.tmp 1) = .int .i64 i := hfr _ rfl
      refine gives_val (u := .int .i64 i) (w' := w1) (by go_simp) ⟨Below.refl _ _, rfl, (fun _ hk => by cases hk), hG⟩
    · intro ρ w1 hG hfr hd
      have fc : ∀ z, ρ (.const z) = z := fun _ => hfr _ rfl
      have ff : ∀ z, ρ (.func z) = .func (.func z) #[] #[] := fun _ => hfr _ rfl
      have f7 : ρ (.tmp 7) = .int .i64 1 := hfr _ rfl
      refine gives_val (u := .int .i64 1) (w' := w1) (by go_simp) ⟨Below.refl _ _, rfl, (fun _ hk => by cases hk), hG⟩
    · intro ρ w1 hG hfr hd
      have fc : ∀ z, ρ (.const z) = z := fun _ => hfr _ rfl
      have ff : ∀ z, ρ (.func z) = .func (.func z) #[] #[] := fun _ => hfr _ rfl
      obtain ⟨d0, d1, -⟩ := hd
      have d0 : (ρ (.tmp 47)) = .int .i64 i := d0
      have d1 : (ρ (.tmp 48)) = .int .i64 1 := d1
      refine gives_val (u := .int .i64 ((i : Int) + 1)) (w' := w1) (by go_simp) ⟨Below.refl _ _, rfl, (fun _ hk => by cases hk), hG⟩
    · intro ρ w1 hG hfr hd
      have fc : ∀ z, ρ (.const z) = z := fun _ => hfr _ rfl
      have ff : ∀ z, ρ (.func z) = .func (.func z) #[] #[] := fun _ => hfr _ rfl
      obtain ⟨d0, d1, -⟩ := hd
      have d0 : (ρ (.tmp 46)) = .slice (some ⟨N, 0, none⟩) (n + 1) G := d0
      have d1 : (ρ (.tmp 49)) = .int .i64 ((i : Int) + 1) := d1
      refine gives_val (u := .slice (some ⟨N, (i + 1) * 3, none⟩) (n + 1 - (i + 1)) (G - (i + 1))) (w' := w1) (by go_simp) ⟨Below.refl _ _, rfl, (fun _ hk => by cases hk), hG⟩
    · intro ρ w1 hG hfr hd
      have fc : ∀ z, ρ (.const z) = z := fun _ => hfr _ rfl
      have ff : ∀ z, ρ (.func z) = .func (.func z) #[] #[] := fun _ => hfr _ rfl
      have f0 : ρ (.tmp 0) = .slice (some ⟨X, 0, none⟩) n c := hfr _ rfl
      refine gives_val (u := .slice (some ⟨X, 0, none⟩) n c) (w' := w1) (by go_simp) ⟨Below.refl _ _, rfl, (fun _ hk => by cases hk), hG⟩
    · intro ρ w1 hG hfr hd
      have fc : ∀ z, ρ (.const z) = z := fun _ => hfr _ rfl
      have ff : ∀ z, ρ (.func z) = .func (.func z) #[] #[] := fun _ => hfr _ rfl
      have f1 : ρ (.tmp 1) = .int .i64 i := hfr _ rfl
      refine gives_val (u := .int .i64 i) (w' := w1) (by go_simp) ⟨Below.refl _ _, rfl, (fun _ hk => by cases hk), hG⟩
    · intro ρ w1 hG hfr hd
      have fc : ∀ z, ρ (.const z) = z := fun _ => hfr _ rfl
      have ff : ∀ z, ρ (.func z) = .func (.func z) #[] #[] := fun _ => hfr _ rfl
      obtain ⟨d0, d1, -⟩ := hd
      have d0 : (ρ (.tmp 51)) = .slice (some ⟨X, 0, none⟩) n c := d0
      have d1 : (ρ (.tmp 52)) = .int .i64 i := d1
      refine gives_val (u := .slice (some ⟨X, i * 3, none⟩) (n - i) (c - i)) (w' := w1) (by go_simp) ⟨Below.refl _ _, rfl, (fun _ hk => by cases hk), hG⟩
  intro vs w2 hG hlen hall hap hbd
  obtain ⟨xv0, vs0, rfl, hl0⟩ := len_cons hlen
  obtain ⟨xv1, vs1, rfl, hl1⟩ := len_cons hl0
  obtain ⟨xv2, vs2, rfl, hl2⟩ := len_cons hl1
  obtain ⟨xv3, vs3, rfl, hl3⟩ := len_cons hl2
  obtain ⟨xv4, vs4, rfl, hl4⟩ := len_cons hl3
  obtain ⟨xv5, vs5, rfl, hl5⟩ := len_cons hl4
  obtain ⟨xv6, vs6, rfl, hl6⟩ := len_cons hl5
  obtain ⟨xv7, vs7, rfl, hl7⟩ := len_cons hl6
  obtain rfl := len_nil hl7
  clear hlen hl0 hl1 hl2 hl3 hl4 hl5 hl6 hl7
  simp only [List.take_succ_cons, List.take_zero, List.drop_succ_cons, List.drop_zero] at hall ⊢
  obtain ⟨t0', t1', t2', t3', t4', t5', t6', t7', -⟩ := hall
  have hv0 : xv0 = .slice (some ⟨N, 0, none⟩) (n + 1) G := t0'
  have hv1 : xv1 = .int .i64 i := t1'
  have hv2 : xv2 = .int .i64 1 := t2'
  have hv3 : xv3 = .int .i64 ((i : Int) + 1) := t3'
  have hv4 : xv4 = .slice (some ⟨N, (i + 1) * 3, none⟩) (n + 1 - (i + 1)) (G - (i + 1)) := t4'
  have hv5 : xv5 = .slice (some ⟨X, 0, none⟩) n c := t5'
  have hv6 : xv6 = .int .i64 i := t6'
  have hv7 : xv7 = .slice (some ⟨X, i * 3, none⟩) (n - i) (c - i) := t7'
  clear t0' t1' t2' t3' t4' t5' t6' t7'
  clear hap hbd
  subst hv0 hv1 hv2 hv3 hv4 hv5 hv6 hv7
  simp only [putAll, Act.put, List.setIfInBounds_toArray, List.set_cons_succ, List.set_cons_zero]
  have hf2 := owns_below HR1.out hG
  have hx2 := owns_below HO2.out hG
  have hoc := HOC.out
  have hcl0 := HCL0.out
  obtain ⟨D, hD⟩ : ∃ D, D = (opsV l).drop (i * 3) := ⟨_, rfl⟩
  have hDl : D.length = (n - i) * 3 := by rw [hD, List.length_drop, hoc]; omega
  have hD1 : ∀ u ∈ D, u.oneCell' = true := fun u hu => opsV_one l u (List.mem_of_mem_drop (by rw [← hD]; exact hu))
  have hol : (over (i * 3) (opv x) cs0).length = (n + 1) * 3 := by have := hf2.1; omega
  obtain ⟨W4, hW4⟩ : ∃ W4, W4 = w2.setCells N ((i + 1) * 3) D := ⟨_, rfl⟩
  have hcp2 : ∀ ty, (Builtin.copy_ #[34, 34] ty #[.slice (some ⟨N, (i + 1) * 3, none⟩) (n + 1 - (i + 1)) (G - (i + 1)), .slice (some ⟨X, i * 3, none⟩) (n - i) (c - i)]).run Try.prog w2 = .ok (goInt ((n - i : Nat) : Int)) W4 := fun ty => by
    rw [hW4]
    exact run_copy_wide w2 34 34 ty 44 3 N ((i + 1) * 3) (n + 1 - (i + 1)) (G - (i + 1)) ⟨X, i * 3, none⟩ (n - i) (c - i) (n - i) D Try.underlying34 hsz (by simp only [Nat.min_def]; split <;> omega) hDl
      (fun j u hj => by
        have hjl : j < D.length := (List.getElem?_eq_some_iff.1 hj).1
        rw [Addr.add_lit, hx2.cellAt _ (by omega)]
        rw [hD, List.getElem?_drop] at hj
        exact hj)
      (fun j hj => by rw [hf2.cellAt _ (by omega), List.getElem?_eq_getElem (by omega)]; rfl) (fun j _ => hf2.frozenAt _) hD1
  have R2 := owns_setCells D ((i + 1) * 3) w2 _ hf2 (by omega)
  rw [← hW4] at R2
  rw [over_grow i n hi cs0 (opv x) D (opv_len x) hDl hcl0, HE0.out, hD, ← opsV_insert l i x (by rw [HL.out]; omega)] at R2
  have HR := Lib.hid R2.1
  have hgr : w.grownBy W4 none := by
    have hb2 : Below w.heap.size w W2 := (below_of_grown HG2.out (Nat.le_refl _) (by simp)).trans (below_of_grown HRG.out HG2.out.size (fun q hq => by simp at hq; have := HNN.out; omega))
    have hb3 := hb2.trans (hG.mono hb2.size)
    exact grown_below (hb3.trans (below_of_grown R2.2 hb3.size (fun q hq => by simp at hq; have := HNN.out; omega)))
  have HGR := Lib.hid hgr
  clear R2 hgr hD hDl hD1 hW4 hol hf2 hx2 hoc hcl0 hG
  go_wp2_with (refine wpList_copy_at rfl (.tmp 50) (.tmp 53) 34 34 rfl rfl rfl hcp2 ?_)
  go_ret
  exact ⟨some ⟨N, 0, none⟩, G, rfl, owns_mono HR.out (Nat.zero_le _), ⟨HGR.out.os, HGR.out.tape, HGR.out.output, HGR.out.size, fun q hq _ => HGR.out.block q hq (by simp)⟩⟩

theorem insertOps_any (a : Option Addr) (n c i vb vc : Nat) (l : List OpD) (x : OpD) (w : World) (ho : w.ownsRow 0 44 3 (.slice a n c) n (opsV l)) (hn : n ≤ 1048576) (hi : i ≤ n)
    (hv : Blk w vb #[.int .i64 x.kind, .int .i64 x.on, .int .i64 x.arg] 44) (hne : rowOf a ≠ some vb) :
    Calls Try.prog 55 #[.slice a n c, .int .i64 i, .slice (some ⟨vb, 0, none⟩) 1 vc] w (Inserted a l i n x w) := by
  by_cases h : i = n
  · subst h
    exact insertOps_end a i c vb vc l x w ho hn (.inr ⟨vb, 0, rfl, fun j hj => by
      have hj' : j < 3 := hj
      match j, hj' with
      | 0, _ => rw [Nat.zero_add]; exact hv.cell 0 rfl
      | 1, _ => rw [Nat.zero_add]; exact hv.cell 1 rfl
      | 2, _ => rw [Nat.zero_add]; exact hv.cell 2 rfl⟩)
  · obtain ⟨X, rfl, -, -⟩ := owns_at ho (by omega)
    by_cases hr : n + 1 ≤ c
    · exact insertOps_shift X n c i vb vc l x w ho hn (by omega) hr hv (fun e => hne (by rw [e]; rfl))
    · exact insertOps_grow X n c i vb vc l x w ho hn (by omega) (by omega) hv

end Go.Proofs.Ytnobkdkfhgjeeab
