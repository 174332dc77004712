/- Two edges are compared: cmp.Compare, cmp.Or, and the closure of HoldEdges. -/
import Derived.Test.YtnobkdkfhgjeeabHoldPlain
import Derived.Sort.Grow
namespace Go.Proofs.Ytnobkdkfhgjeeab
open Go.RowKit

/-- Some draws, some blocks behind. -/
def Grew (w w' : World) : Prop := ∃ (q : Nat) (os : Array Obj), w' = Sort.grow (w.drewN q) os
theorem Grew.refl (w : World) : Grew w w := ⟨0, #[], by simp [Sort.grow, World.drewN]⟩
theorem Grew.alloc {w w' : World} (h : Grew w w') (_ : w.heap.size ≤ w'.heap.size) (o : Obj) : Grew w (w'.alloc o) := by
  obtain ⟨q, os, rfl⟩ := h
  exact ⟨q, os ++ #[o], by rw [Sort.alloc_eq_grow, Sort.grow_grow]⟩
theorem Grew.drew {w w' : World} (h : Grew w w') : Grew w w'.drew := by
  obtain ⟨q, os, rfl⟩ := h
  exact ⟨q + 1, os, by rw [Sort.drew_grow]; rfl⟩
theorem Grew.below {w w' : World} (h : Grew w w') : Below w.heap.size w w' := by
  obtain ⟨q, os, rfl⟩ := h
  exact below_regrown _ _ _
theorem Grew.size {w w' : World} (h : Grew w w') : w.heap.size ≤ w'.heap.size := h.below.size

def cmpI (x y : Int) : Int := if x < y then -1 else if y < x then 1 else 0
def cmpE (e f : Int × Int) : Int := if cmpI e.1 f.1 = 0 then cmpI e.2 f.2 else cmpI e.1 f.1

set_option maxHeartbeats 400000 in
theorem isNaN_any (x : Int) (w : World) : Calls Try.prog 102 #[.int .i64 x] w fun e w' => e = .returned (.bool false) ∧ w' = w := by
  go_enter Try.func102, Try.ntmps102
  go_wp2
  go_ret
  exact ⟨rfl, rfl⟩
set_option maxHeartbeats 400000 in
theorem cmpInt_any (x y : Int) (w : World) : Calls Try.prog 76 #[.int .i64 x, .int .i64 y] w fun e w' => e = .returned (.int .i64 (cmpI x y)) ∧ w' = w := by
  obtain ⟨r, hr⟩ : ∃ r, r = cmpI x y := ⟨_, rfl⟩
  rw [← hr]
  have HR := Lib.hid hr
  clear hr
  go_enter Try.func76, Try.ntmps76
  go_wp2_with fail
  refine (isNaN_any x w).mono ?_
  rintro e w1 ⟨rfl, rfl⟩
  go_wp2_with fail
  refine (isNaN_any y w1).mono ?_
  rintro e w2 ⟨rfl, rfl⟩
  by_cases h1 : x < y
  · have t1 : decide (x < y) = true := decide_eq_true h1
    obtain rfl : r = -1 := by rw [HR.out, cmpI, if_pos h1]
    clear h1
    go_wp2
    go_ret
    exact ⟨rfl, rfl⟩
  · have t1 : decide (x < y) = false := decide_eq_false h1
    by_cases h2 : y < x
    · have t2 : decide (y < x) = true := decide_eq_true h2
      obtain rfl : r = 1 := by rw [HR.out, cmpI, if_neg h1, if_pos h2]
      clear h1 h2
      go_wp2
      go_ret
      exact ⟨rfl, rfl⟩
    · have t2 : decide (y < x) = false := decide_eq_false h2
      obtain rfl : r = 0 := by rw [HR.out, cmpI, if_neg h1, if_neg h2]
      clear h1 h2
      go_wp2
      go_ret
      exact ⟨rfl, rfl⟩
set_option maxRecDepth 100000 in
set_option maxHeartbeats 1000000 in
theorem orInt_any (g : Nat) (x y : Int) (w : World) (h0 : w.cell? ⟨g, 0, none⟩ = some (.int .i64 x)) (h1 : w.cell? ⟨g, 1, none⟩ = some (.int .i64 y)) :
    Calls Try.prog 75 #[.slice (some ⟨g, 0, none⟩) 2 2] w fun e w' => e = .returned (.int .i64 (if x = 0 then y else x)) ∧ w' = w := by
  obtain ⟨r, hr⟩ : ∃ r, r = (if x = 0 then y else x) := ⟨_, rfl⟩
  rw [← hr]
  have HR := Lib.hid hr
  clear hr
  go_enter Try.func75, Try.ntmps75
  go_wp2
  go_loopw [8] (fun v8 wr => ∃ k : Nat, k ≤ 2 ∧ v8 = .int .i64 k ∧ wr = w ∧ Hid ((0 < k → x = 0) ∧ (1 < k → y = 0))) (fun v8 _ => 2 - (intOf v8).toNat)
  case atStart => exact ⟨0, by omega, rfl, rfl, Lib.hid ⟨by omega, by omega⟩⟩
  case round =>
    obtain ⟨k, hk, rfl, rfl, HX⟩ := hrel
    rcases (show k = 0 ∨ k = 1 ∨ k = 2 by omega) with rfl | rfl | rfl
    · by_cases hz : x = 0
      · have HZ := Lib.hid hz
        have t1 : (x == 0) = true := by simpa using hz
        clear hz
        go_wp2
        go_roundw
        case rel => exact ⟨1, by omega, by go_num, by first | rfl | trivial, Lib.hid ⟨fun _ => HZ.out, by omega⟩⟩
        case measure => simp [intOf]
      · have t1 : (x == 0) = false := by simpa using hz
        obtain rfl : r = x := by rw [HR.out, if_neg hz]
        clear hz
        go_wp2
        go_ret
        exact ⟨rfl, rfl⟩
    · have hx0 := HX.out.1 (by omega)
      by_cases hz : y = 0
      · have HX0 := Lib.hid hx0
        have HZ := Lib.hid hz
        have t1 : (y == 0) = true := by simpa using hz
        clear hz hx0
        go_wp2
        go_roundw
        case rel => exact ⟨2, by omega, by go_num, by first | rfl | trivial, Lib.hid ⟨fun _ => HX0.out, fun _ => HZ.out⟩⟩
        case measure => simp [intOf]
      · have t1 : (y == 0) = false := by simpa using hz
        obtain rfl : r = y := by rw [HR.out, if_pos hx0]
        clear hz hx0
        go_wp2
        go_ret
        exact ⟨rfl, rfl⟩
    · have hx0 := HX.out.1 (by omega)
      have hy0 := HX.out.2 (by omega)
      obtain rfl : r = 0 := by rw [HR.out, if_pos hx0, hy0]
      clear hx0 hy0
      go_wp2
      go_ret
      exact ⟨rfl, rfl⟩

set_option maxRecDepth 100000 in
set_option maxHeartbeats 4000000 in
theorem cmpEdge_any (e f : Int × Int) (w : World) : Calls Try.prog 74 #[.agg #[.int .i64 e.1, .int .i64 e.2], .agg #[.int .i64 f.1, .int .i64 f.2]] w fun x w' => x = .returned (.int .i64 (cmpE e f)) ∧ Grew w w' := by
  have k0 : Blk ((w.alloc (.cells #[.int .i64 e.1, .int .i64 e.2] 61)).alloc (.cells #[.int .i64 f.1, .int .i64 f.2] 61)) w.heap.size #[.int .i64 e.1, .int .i64 e.2] 61 := (Blk.new _ _ _).alloc _
  have k1 : Blk ((w.alloc (.cells #[.int .i64 e.1, .int .i64 e.2] 61)).alloc (.cells #[.int .i64 f.1, .int .i64 f.2] 61)) (w.heap.size + 1) #[.int .i64 f.1, .int .i64 f.2] 61 := by have := Blk.new (w.alloc (.cells #[.int .i64 e.1, .int .i64 e.2] 61)) #[.int .i64 f.1, .int .i64 f.2] 61; simpa using this
  have hg : Grew w ((w.alloc (.cells #[.int .i64 e.1, .int .i64 e.2] 61)).alloc (.cells #[.int .i64 f.1, .int .i64 f.2] 61)) := ((Grew.refl w).alloc (Nat.le_refl _) _).alloc (by simp) _
  obtain ⟨W0, hW0⟩ : ∃ W0 : World, W0 = (w.alloc (.cells #[.int .i64 e.1, .int .i64 e.2] 61)).alloc (.cells #[.int .i64 f.1, .int .i64 f.2] 61) := ⟨_, rfl⟩
  rw [← hW0] at k0 k1 hg
  have q0 := k0.cell 0 rfl
  have q1 := k0.cell 1 rfl
  have y0 := k1.cell 0 rfl
  have y1 := k1.cell 1 rfl
  have HW0 := Lib.hid hW0
  have HG0 := Lib.hid hg
  clear hW0 k0 k1 hg
  go_enter Try.func74, Try.ntmps74
  go_wp2
  rw [← HW0.out]
  refine wp_region_fresh 12 (by kernel_rfl) (by kernel_rfl) [fun dz uz wz => uz = .pointer (some ⟨w.heap.size, 0, none⟩), fun dz uz wz => uz = .int .i64 e.1, fun dz uz wz => uz = .pointer (some ⟨w.heap.size + 1, 0, none⟩), fun dz uz wz => uz = .int .i64 f.1, fun dz uz wz => uz = .int .i64 (cmpI e.1 f.1), fun dz uz wz => uz = .pointer (some ⟨w.heap.size, 1, none⟩), fun dz uz wz => uz = .int .i64 e.2, fun dz uz wz => uz = .pointer (some ⟨w.heap.size + 1, 1, none⟩), fun dz uz wz => uz = .int .i64 f.2, fun dz uz wz => uz = .int .i64 (cmpI e.2 f.2), fun dz uz wz => ∃ gz : Nat, uz = .slice (some ⟨gz, 0, none⟩) 2 2 ∧ Blk wz gz #[.int .i64 (cmpI e.1 f.1), .int .i64 (cmpI e.2 f.2)] 3, fun dz uz wz => uz = .int .i64 (cmpE e f)] (fun i => match i with | _ => fun _ => none) (fun w' => Grew W0 w') (Grew.refl _).drew (stab_of ⟨fun _ _ _ _ _ h => h, fun _ _ _ _ _ h => h, fun _ _ _ _ _ h => h, fun _ _ _ _ _ h => h, fun _ _ _ _ _ h => h, fun _ _ _ _ _ h => h, fun _ _ _ _ _ h => h, fun _ _ _ _ _ h => h, fun _ _ _ _ _ h => h, fun _ _ _ _ _ h => h, fun _ _ _ _ hb ⟨g, e, h⟩ => ⟨g, e, h.below hb⟩, fun _ _ _ _ _ h => h, trivial⟩) ?_ ?_
  · simp only [List.take_succ_cons, List.take_zero]
    refine ⟨?_, ?_, ?_, ?_, ?_, ?_, ?_, ?_, ?_, ?_, ?_, ?_, trivial⟩
    · intro ρ w1 hG hfr hd
      have fc : ∀ z, ρ (.const z) = z := fun _ => hfr _ rfl
      have ff : ∀ z, ρ (.func z) = .func (.func z) #[] #[] := fun _ => hfr _ rfl
      have f2 : ρ (.tmp 2) = .pointer (some ⟨w.heap.size, 0, none⟩) := hfr _ rfl
      refine gives_val (u := .pointer (some ⟨w.heap.size, 0, none⟩)) (w' := w1) (by go_simp) ⟨Below.refl _ _, rfl, (fun _ hk => by cases hk), hG⟩
    · intro ρ w1 hG hfr hd
      have fc : ∀ z, ρ (.const z) = z := fun _ => hfr _ rfl
      have ff : ∀ z, ρ (.func z) = .func (.func z) #[] #[] := fun _ => hfr _ rfl
      obtain ⟨d0, -⟩ := hd
      have d0 : (ρ (.tmp 5)) = .pointer (some ⟨w.heap.size, 0, none⟩) := d0
      have q0 := keepc hG.below q0
      refine gives_val (u := .int .i64 e.1) (w' := w1) (by go_simp) ⟨Below.refl _ _, rfl, (fun _ hk => by cases hk), hG⟩
    · intro ρ w1 hG hfr hd
      have fc : ∀ z, ρ (.const z) = z := fun _ => hfr _ rfl
      have ff : ∀ z, ρ (.func z) = .func (.func z) #[] #[] := fun _ => hfr _ rfl
      have f3 : ρ (.tmp 3) = .pointer (some ⟨w.heap.size + 1, 0, none⟩) := hfr _ rfl
      refine gives_val (u := .pointer (some ⟨w.heap.size + 1, 0, none⟩)) (w' := w1) (by go_simp) ⟨Below.refl _ _, rfl, (fun _ hk => by cases hk), hG⟩
    · intro ρ w1 hG hfr hd
      have fc : ∀ z, ρ (.const z) = z := fun _ => hfr _ rfl
      have ff : ∀ z, ρ (.func z) = .func (.func z) #[] #[] := fun _ => hfr _ rfl
      obtain ⟨d0, -⟩ := hd
      have d0 : (ρ (.tmp 7)) = .pointer (some ⟨w.heap.size + 1, 0, none⟩) := d0
      have y0 := keepc hG.below y0
      refine gives_val (u := .int .i64 f.1) (w' := w1) (by go_simp) ⟨Below.refl _ _, rfl, (fun _ hk => by cases hk), hG⟩
    · intro ρ w1 hG hfr hd
      have fc : ∀ z, ρ (.const z) = z := fun _ => hfr _ rfl
      have ff : ∀ z, ρ (.func z) = .func (.func z) #[] #[] := fun _ => hfr _ rfl
      obtain ⟨d0, d1, -⟩ := hd
      have d0 : (ρ (.tmp 6)) = .int .i64 e.1 := d0
      have d1 : (ρ (.tmp 8)) = .int .i64 f.1 := d1
      refine gives_call (by go_simp; exact ⟨⟨rfl, rfl⟩, rfl⟩) ?_
      refine (cmpInt_any e.1 f.1 _).mono ?_
      rintro e w2 ⟨rfl, rfl⟩
      exact ⟨_, rfl, Below.refl _ _, rfl, (fun _ hk => by cases hk), hG⟩
    · intro ρ w1 hG hfr hd
      have fc : ∀ z, ρ (.const z) = z := fun _ => hfr _ rfl
      have ff : ∀ z, ρ (.func z) = .func (.func z) #[] #[] := fun _ => hfr _ rfl
      have f2 : ρ (.tmp 2) = .pointer (some ⟨w.heap.size, 0, none⟩) := hfr _ rfl
      refine gives_val (u := .pointer (some ⟨w.heap.size, 1, none⟩)) (w' := w1) (by go_simp) ⟨Below.refl _ _, rfl, (fun _ hk => by cases hk), hG⟩
    · intro ρ w1 hG hfr hd
      have fc : ∀ z, ρ (.const z) = z := fun _ => hfr _ rfl
      have ff : ∀ z, ρ (.func z) = .func (.func z) #[] #[] := fun _ => hfr _ rfl
      obtain ⟨d0, -⟩ := hd
      have d0 : (ρ (.tmp 10)) = .pointer (some ⟨w.heap.size, 1, none⟩) := d0
      have q1 := keepc hG.below q1
      refine gives_val (u := .int .i64 e.2) (w' := w1) (by go_simp) ⟨Below.refl _ _, rfl, (fun _ hk => by cases hk), hG⟩
    · intro ρ w1 hG hfr hd
      have fc : ∀ z, ρ (.const z) = z := fun _ => hfr _ rfl
      have ff : ∀ z, ρ (.func z) = .func (.func z) #[] #[] := fun _ => hfr _ rfl
      have f3 : ρ (.tmp 3) = .pointer (some ⟨w.heap.size + 1, 0, none⟩) := hfr _ rfl
      refine gives_val (u := .pointer (some ⟨w.heap.size + 1, 1, none⟩)) (w' := w1) (by go_simp) ⟨Below.refl _ _, rfl, (fun _ hk => by cases hk), hG⟩
    · intro ρ w1 hG hfr hd
      have fc : ∀ z, ρ (.const z) = z := fun _ => hfr _ rfl
      have ff : ∀ z, ρ (.func z) = .func (.func z) #[] #[] := fun _ => hfr _ rfl
      obtain ⟨d0, -⟩ := hd
      have d0 : (ρ (.tmp 12)) = .pointer (some ⟨w.heap.size + 1, 1, none⟩) := d0
      have y1 := keepc hG.below y1
      refine gives_val (u := .int .i64 f.2) (w' := w1) (by go_simp) ⟨Below.refl _ _, rfl, (fun _ hk => by cases hk), hG⟩
    · intro ρ w1 hG hfr hd
      have fc : ∀ z, ρ (.const z) = z := fun _ => hfr _ rfl
      have ff : ∀ z, ρ (.func z) = .func (.func z) #[] #[] := fun _ => hfr _ rfl
      obtain ⟨d0, d1, -⟩ := hd
      have d0 : (ρ (.tmp 11)) = .int .i64 e.2 := d0
      have d1 : (ρ (.tmp 13)) = .int .i64 f.2 := d1
      refine gives_call (by go_simp; exact ⟨⟨rfl, rfl⟩, rfl⟩) ?_
      refine (cmpInt_any e.2 f.2 _).mono ?_
      rintro e w2 ⟨rfl, rfl⟩
      exact ⟨_, rfl, Below.refl _ _, rfl, (fun _ hk => by cases hk), hG⟩
    · intro ρ w1 hG hfr hd
      have fc : ∀ z, ρ (.const z) = z := fun _ => hfr _ rfl
      have ff : ∀ z, ρ (.func z) = .func (.func z) #[] #[] := fun _ => hfr _ rfl
      obtain ⟨d0, d1, -⟩ := hd
      have d0 : (ρ (.tmp 9)) = .int .i64 (cmpI e.1 f.1) := d0
      have d1 : (ρ (.tmp 14)) = .int .i64 (cmpI e.2 f.2) := d1
      refine gives_val (u := .slice (some ⟨w1.heap.size, 0, none⟩) 2 2) (w' := w1.alloc (.cells #[.int .i64 (cmpI e.1 f.1), .int .i64 (cmpI e.2 f.2)] 3)) (by go_simp) ⟨(Below.refl _ _).alloc (Nat.le_refl _) _, ⟨_, rfl, Blk.new _ _ _⟩, (fun _ hk => by cases hk), hG.alloc hG.size _⟩
    · intro ρ w1 hG hfr hd
      have fc : ∀ z, ρ (.const z) = z := fun _ => hfr _ rfl
      have ff : ∀ z, ρ (.func z) = .func (.func z) #[] #[] := fun _ => hfr _ rfl
      obtain ⟨d0, -⟩ := hd
      have d0 : ∃ gz : Nat, (ρ (.tmp 15)) = .slice (some ⟨gz, 0, none⟩) 2 2 ∧ Blk w1 gz #[.int .i64 (cmpI e.1 f.1), .int .i64 (cmpI e.2 f.2)] 3 := d0
      obtain ⟨gz, d0, hk⟩ := d0
      refine gives_call (by go_simp; exact ⟨⟨rfl, rfl⟩, rfl⟩) ?_
      refine (orInt_any gz (cmpI e.1 f.1) (cmpI e.2 f.2) _ (hk.cell 0 rfl) (hk.cell 1 rfl)).mono ?_
      rintro e w2 ⟨rfl, rfl⟩
      exact ⟨_, rfl, Below.refl _ _, rfl, (fun _ hk => by cases hk), hG⟩
  intro vs w2 hG hlen hall hap hbd
  obtain ⟨xv0, vs0, rfl, hl0⟩ := len_cons hlen
  obtain ⟨xv1, vs1, rfl, hl1⟩ := len_cons hl0
  obtain ⟨xv2, vs2, rfl, hl2⟩ := len_cons hl1
  obtain ⟨xv3, vs3, rfl, hl3⟩ := len_cons hl2
  obtain ⟨xv4, vs4, rfl, hl4⟩ := len_cons hl3
  obtain ⟨xv5, vs5, rfl, hl5⟩ := len_cons hl4
  obtain ⟨xv6, vs6, rfl, hl6⟩ := len_cons hl5
  obtain ⟨xv7, vs7, rfl, hl7⟩ := len_cons hl6
  obtain ⟨xv8, vs8, rfl, hl8⟩ := len_cons hl7
  obtain ⟨xv9, vs9, rfl, hl9⟩ := len_cons hl8
  obtain ⟨xv10, vs10, rfl, hl10⟩ := len_cons hl9
  obtain ⟨xv11, vs11, rfl, hl11⟩ := len_cons hl10
  obtain rfl := len_nil hl11
  clear hlen hl0 hl1 hl2 hl3 hl4 hl5 hl6 hl7 hl8 hl9 hl10 hl11
  simp only [List.take_succ_cons, List.take_zero, List.drop_succ_cons, List.drop_zero] at hall ⊢
  obtain ⟨t0', t1', t2', t3', t4', t5', t6', t7', t8', t9', t10', t11', -⟩ := hall
  have hv0 : xv0 = .pointer (some ⟨w.heap.size, 0, none⟩) := t0'
  have hv1 : xv1 = .int .i64 e.1 := t1'
  have hv2 : xv2 = .pointer (some ⟨w.heap.size + 1, 0, none⟩) := t2'
  have hv3 : xv3 = .int .i64 f.1 := t3'
  have hv4 : xv4 = .int .i64 (cmpI e.1 f.1) := t4'
  have hv5 : xv5 = .pointer (some ⟨w.heap.size, 1, none⟩) := t5'
  have hv6 : xv6 = .int .i64 e.2 := t6'
  have hv7 : xv7 = .pointer (some ⟨w.heap.size + 1, 1, none⟩) := t7'
  have hv8 : xv8 = .int .i64 f.2 := t8'
  have hv9 : xv9 = .int .i64 (cmpI e.2 f.2) := t9'
  have hv10 : ∃ gz : Nat, xv10 = .slice (some ⟨gz, 0, none⟩) 2 2 ∧ Blk w2 gz #[.int .i64 (cmpI e.1 f.1), .int .i64 (cmpI e.2 f.2)] 3 := t10'
  have hv11 : xv11 = .int .i64 (cmpE e f) := t11'
  clear t0' t1' t2' t3' t4' t5' t6' t7' t8' t9' t10' t11'
  clear hap hbd
  subst hv0 hv1 hv2 hv3 hv4 hv5 hv6 hv7 hv8 hv9 hv11
  simp only [putAll, Act.put, List.setIfInBounds_toArray, List.set_cons_succ, List.set_cons_zero]
  go_wp2
  go_ret
  refine ⟨rfl, ?_⟩
  obtain ⟨q, os, e1⟩ := HG0.out
  obtain ⟨q', os', e2⟩ := hG
  exact ⟨q + q', os ++ os', by rw [e2, e1]; show Sort.grow (Sort.grow ((w.drewN q).drewN q') os) os' = _; rw [Sort.grow_grow, World.drewN_drewN]⟩

end Go.Proofs.Ytnobkdkfhgjeeab
