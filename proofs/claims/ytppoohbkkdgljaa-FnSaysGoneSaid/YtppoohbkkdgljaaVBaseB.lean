/- Part of a proof: BaseB. -/
import Derived.Shelf.Abstract
import Derived.StillTailTactics
import Derived.Test.YtppoohbkkdgljaaVBaseA
set_option maxRecDepth 100000
set_option maxHeartbeats 16000000
namespace Go.Proofs.Ytppoohbkkdgljaa
open Go.RowKit
def spB : ByteArray := ⟨#[32]⟩
def zca (k : Int) : Int := if k = 6 ∨ k = 7 ∨ k = 9 ∨ k = 10 then 1 else if k = 1 then 0 else 2
def zbh (o : OpD) : ByteArray :=
 if 1 ≤ o.kind ∧ o.kind ≤ 10 then
  (if zca o.kind = 0 then zbB o.kind ++ spB ++ decI o.arg else if zca o.kind = 1 then zbB o.kind ++ spB ++ decI o.on else zbB o.kind ++ spB ++ decI o.on ++ spB ++ decI o.arg)
 else zdJ
theorem zkj {a b : Int} (h : a = b) : Ending.returned (.int .i64 a) = .returned (.int .i64 b) := by rw [h]
theorem zao (k : Int) (w : World) : Calls Try.prog 97 #[.int .i64 k] w fun e w' => e = .returned (.int .i64 (zca k)) ∧ w' = w := by
 have go : ∀ (a6 a7 a9 a10 a1 : Bool) (r : Int), (k == 6) = a6 → (k == 7) = a7 → (k == 9) = a9 → (k == 10) = a10 → (k == 1) = a1 → zca k = (if a6 then 1 else if a7 then 1 else if a9 then 1 else if a10 then 1 else if a1 then 0 else 2) := by
  intro a6 a7 a9 a10 a1 r h6 h7 h9 h10 h1
  subst h6 h7 h9 h10 h1
  unfold zca
  by_cases e6 : k = 6
  ·simp [e6]
  ·by_cases e7 : k = 7
   ·simp [e7]
   ·by_cases e9 : k = 9
    ·simp [e9]
    ·by_cases e10 : k = 10
     ·simp [e10]
     ·by_cases e1 : k = 1
      ·simp [e1]
      ·simp [e6, e7, e9, e10, e1]
 have G := go _ _ _ _ _ 0 rfl rfl rfl rfl rfl
 by_cases e6 : k = 6
 ·subst e6
  go_enter Try.func97, Try.ntmps97
  go_wp2
  go_ret
  exact ⟨rfl, rfl⟩
 by_cases e7 : k = 7
 ·subst e7
  go_enter Try.func97, Try.ntmps97
  go_wp2
  go_ret
  exact ⟨rfl, rfl⟩
 by_cases e9 : k = 9
 ·subst e9
  go_enter Try.func97, Try.ntmps97
  go_wp2
  go_ret
  exact ⟨rfl, rfl⟩
 by_cases e10 : k = 10
 ·subst e10
  go_enter Try.func97, Try.ntmps97
  go_wp2
  go_ret
  exact ⟨rfl, rfl⟩
 by_cases e1 : k = 1
 ·subst e1
  go_enter Try.func97, Try.ntmps97
  go_wp2
  go_ret
  exact ⟨rfl, rfl⟩
 ·have b6 : (k == 6) = false := by simpa using e6
  have b7 : (k == 7) = false := by simpa using e7
  have b9 : (k == 9) = false := by simpa using e9
  have b10 : (k == 10) = false := by simpa using e10
  have b1 : (k == 1) = false := by simpa using e1
  have HG : Hid (zca k = 2) := xH1 (by rw [G, b6, b7, b9, b10, b1]; rfl)
  clear G go
  go_enter Try.func97, Try.ntmps97
  go_wp2
  go_ret
  exact ⟨zkj HG.out.symm, rfl⟩
theorem zgD (k : Int) : (zbB k).size ≤ 7 := by
 unfold zbB
 repeat' split
 all_goals (simp [ByteArray.size])
theorem zgB (o : OpD) (h1 : -9223372036854775808 ≤ o.on ∧ o.on ≤ 9223372036854775807) (h2 : -9223372036854775808 ≤ o.arg ∧ o.arg ≤ 9223372036854775807) : (zbh o).size ≤ 49 := by
 have hw := zgD o.kind
 have ha := zdk o.on h1.1 h1.2
 have hb := zdk o.arg h2.1 h2.2
 have hs : spB.size = 1 := rfl
 unfold zbh
 split
 ·split
  ·simp only [ByteArray.size_append]; omega
  ·split
   ·simp only [ByteArray.size_append]; omega
   ·simp only [ByteArray.size_append]; omega
 ·show 0 ≤ 49; omega
theorem zco (o : OpD) (w : World) (h1 : -9223372036854775808 ≤ o.on ∧ o.on ≤ 9223372036854775807) (h2 : -9223372036854775808 ≤ o.arg ∧ o.arg ≤ 9223372036854775807) :
  Calls Try.prog 90 #[.agg #[.int .i64 o.kind, .int .i64 o.on, .int .i64 o.arg]] w fun e w' => e = .returned (.string (zbh o)) ∧ Below w.heap.size w w' := by
 have B0 : Below w.heap.size w (w.alloc (.cells #[.int .i64 o.kind, .int .i64 o.on, .int .i64 o.arg] 44)) := xA1
 have k0 : Blk (w.alloc (.cells #[.int .i64 o.kind, .int .i64 o.on, .int .i64 o.arg] 44)) w.heap.size #[.int .i64 o.kind, .int .i64 o.on, .int .i64 o.arg] 44 := Blk.new _ _ _
 have c0 : (w.alloc (.cells #[.int .i64 o.kind, .int .i64 o.on, .int .i64 o.arg] 44)).cell? ⟨w.heap.size, 0, none⟩ = some (.int .i64 o.kind) := k0.cell 0 rfl
 have c1 : (w.alloc (.cells #[.int .i64 o.kind, .int .i64 o.on, .int .i64 o.arg] 44)).cell? ⟨w.heap.size, 1, none⟩ = some (.int .i64 o.on) := k0.cell 1 rfl
 have c2 : (w.alloc (.cells #[.int .i64 o.kind, .int .i64 o.on, .int .i64 o.arg] 44)).cell? ⟨w.heap.size, 2, none⟩ = some (.int .i64 o.arg) := k0.cell 2 rfl
 clear k0
 by_cases hk : 1 ≤ o.kind ∧ o.kind ≤ 10
 rotate_left
 ·have HW : Hid (zbB o.kind = zdJ) := xH1 (by unfold zbB zdJ; repeat (rw [if_neg (by omega)]))
  have HR : Hid (zbh o = zdJ) := xH1 (by unfold zbh; rw [if_neg hk])
  clear hk h1 h2
  go_enter Try.func90, Try.ntmps90
  go_wp2_with fail
  refine (zbx o.kind _).mono ?_
  rintro e w1 ⟨rfl, hb⟩
  rw [HW.out]
  replace c0 := zd hb c0
  replace c1 := zd hb c1
  replace c2 := zd hb c2
  replace B0 := B0.trans (hb.mono B0.size)
  clear hb
  go_wp2
  go_ret
  exact ⟨zck (by rw [HR.out]; rfl), B0⟩
 have hsw := zgD o.kind
 obtain ⟨c, cs, hW⟩ : ∃ c cs, zbB o.kind = zaC c cs := by
  have hk : o.kind = 1 ∨ o.kind = 2 ∨ o.kind = 3 ∨ o.kind = 4 ∨ o.kind = 5 ∨ o.kind = 6 ∨ o.kind = 7 ∨ o.kind = 8 ∨ o.kind = 9 ∨ o.kind = 10 := by omega
  rcases hk with h | h | h | h | h | h | h | h | h | h <;> rw [h] <;> exact ⟨_, _, rfl⟩
 rw [hW] at hsw
 have HW := xH1 hW
 have hda := zdk o.arg h2.1 h2.2
 have hdo := zdk o.on h1.1 h1.2
 have H1 := xH1 h1
 have H2 := xH1 h2
 have hs1 : spB.size = 1 := rfl
 have s1 := fun (W : World) => run_string_add_sum (P := Try.prog) (w := W) (zaC c cs) spB (by omega)
 have s2 := fun (W : World) => run_string_add_sum (P := Try.prog) (w := W) (zaC c cs ++ spB) (decI o.arg) (by rw [ByteArray.size_append]; omega)
 have s3 := fun (W : World) => run_string_add_sum (P := Try.prog) (w := W) (zaC c cs ++ spB) (decI o.on) (by rw [ByteArray.size_append]; omega)
 have s4 := fun (W : World) => run_string_add_sum (P := Try.prog) (w := W) (zaC c cs ++ spB ++ decI o.on) spB (by rw [ByteArray.size_append, ByteArray.size_append]; omega)
 have s5 := fun (W : World) => run_string_add_sum (P := Try.prog) (w := W) (zaC c cs ++ spB ++ decI o.on ++ spB) (decI o.arg) (by simp only [ByteArray.size_append]; omega)
 unfold spB at s1 s2 s3 s4 s5
 have HK := xH1 hk
 clear hsw hda hdo h1 h2 hs1 hW hk
 rcases (show zca o.kind = 0 ∨ zca o.kind = 1 ∨ zca o.kind = 2 by (unfold zca; repeat' split); all_goals simp) with ha | ha | ha
 ·have HA := xH1 ha
  have HR : Hid (zbh o = zbB o.kind ++ spB ++ decI o.arg) := xH1 (by unfold zbh; rw [if_pos HK.out, if_pos ha])
  clear ha s3 s4 s5
  go_enter Try.func90, Try.ntmps90
  go_wp2_with fail
  refine (zbx o.kind _).mono ?_
  rintro e w1 ⟨rfl, hb⟩
  rw [HW.out]
  replace c0 := zd hb c0
  replace c1 := zd hb c1
  replace c2 := zd hb c2
  replace B0 := B0.trans (hb.mono B0.size)
  clear hb
  go_wp2_with fail
  refine (zao o.kind _).mono ?_
  rintro e w2 ⟨rfl, hw⟩
  have hw' := hw.symm
  subst hw'
  rw [HA.out]
  go_wp2_with fail
  refine (zdo o.arg _ H2.out.1 H2.out.2).mono ?_
  rintro e w3 ⟨rfl, hb⟩
  replace c0 := zd hb c0
  replace c1 := zd hb c1
  replace c2 := zd hb c2
  replace B0 := B0.trans (hb.mono B0.size)
  clear hb
  go_wp2
  go_ret
  exact ⟨zck (by rw [HR.out, HW.out]; rfl), B0⟩
 ·have HA := xH1 ha
  have HR : Hid (zbh o = zbB o.kind ++ spB ++ decI o.on) := xH1 (by unfold zbh; rw [if_pos HK.out, if_neg (by omega), if_pos ha])
  clear ha s2 s4 s5
  go_enter Try.func90, Try.ntmps90
  go_wp2_with fail
  refine (zbx o.kind _).mono ?_
  rintro e w1 ⟨rfl, hb⟩
  rw [HW.out]
  replace c0 := zd hb c0
  replace c1 := zd hb c1
  replace c2 := zd hb c2
  replace B0 := B0.trans (hb.mono B0.size)
  clear hb
  go_wp2_with fail
  refine (zao o.kind _).mono ?_
  rintro e w2 ⟨rfl, hw⟩
  have hw' := hw.symm
  subst hw'
  rw [HA.out]
  go_wp2_with fail
  refine (zao o.kind _).mono ?_
  rintro e w2' ⟨rfl, hw⟩
  have hw' := hw.symm
  subst hw'
  rw [HA.out]
  go_wp2_with fail
  refine (zdo o.on _ H1.out.1 H1.out.2).mono ?_
  rintro e w3 ⟨rfl, hb⟩
  replace c0 := zd hb c0
  replace c1 := zd hb c1
  replace c2 := zd hb c2
  replace B0 := B0.trans (hb.mono B0.size)
  clear hb
  go_wp2
  go_ret
  exact ⟨zck (by rw [HR.out, HW.out]; rfl), B0⟩
 ·have HA := xH1 ha
  have HR : Hid (zbh o = zbB o.kind ++ spB ++ decI o.on ++ spB ++ decI o.arg) := xH1 (by unfold zbh; rw [if_pos HK.out, if_neg (by omega), if_neg (by omega)])
  clear ha s2
  go_enter Try.func90, Try.ntmps90
  go_wp2_with fail
  refine (zbx o.kind _).mono ?_
  rintro e wS ⟨rfl, hb⟩
  rw [HW.out]
  replace c0 := zd hb c0
  replace c1 := zd hb c1
  replace c2 := zd hb c2
  replace B0 := B0.trans (hb.mono B0.size)
  clear hb
  go_wp2_with fail
  refine (zao o.kind _).mono ?_
  rintro e w2 ⟨rfl, hw⟩
  have hw' := hw.symm
  subst hw'
  rw [HA.out]
  go_wp2_with fail
  refine (zao o.kind _).mono ?_
  rintro e w2' ⟨rfl, hw⟩
  have hw' := hw.symm
  subst hw'
  rw [HA.out]
  go_wp2
  refine zaq 11 (by kernel_rfl) (by kernel_rfl) [fun dz uz wz => uz = .string (zaC c cs), fun dz uz wz => uz = .string (zaC c cs ++ (⟨#[32]⟩ : ByteArray)), fun dz uz wz => uz = .pointer (some ⟨w.heap.size, 1, none⟩), fun dz uz wz => uz = .int .i64 o.on, fun dz uz wz => uz = .string (decI o.on), fun dz uz wz => uz = .string (zaC c cs ++ (⟨#[32]⟩ : ByteArray) ++ decI o.on), fun dz uz wz => uz = .string (zaC c cs ++ (⟨#[32]⟩ : ByteArray) ++ decI o.on ++ (⟨#[32]⟩ : ByteArray)), fun dz uz wz => uz = .pointer (some ⟨w.heap.size, 2, none⟩), fun dz uz wz => uz = .int .i64 o.arg, fun dz uz wz => uz = .string (decI o.arg), fun dz uz wz => uz = .string (zaC c cs ++ (⟨#[32]⟩ : ByteArray) ++ decI o.on ++ (⟨#[32]⟩ : ByteArray) ++ decI o.arg)] (fun i => match i with | _ => fun _ => none) (fun w' => Below wS.heap.size wS w') xB1.drew (zbI ⟨fun _ _ _ _ _ h => h, fun _ _ _ _ _ h => h, fun _ _ _ _ _ h => h, fun _ _ _ _ _ h => h, fun _ _ _ _ _ h => h, fun _ _ _ _ _ h => h, fun _ _ _ _ _ h => h, fun _ _ _ _ _ h => h, fun _ _ _ _ _ h => h, fun _ _ _ _ _ h => h, fun _ _ _ _ _ h => h, trivial⟩) ?_ ?_
  ·simp only [List.take_succ_cons, List.take_zero]
   refine ⟨?_, ?_, ?_, ?_, ?_, ?_, ?_, ?_, ?_, ?_, ?_, trivial⟩
   ·intro ρ w1 hG hfr hd
    obtain ⟨fc, ff⟩ := xF1 hfr
    have f3 : ρ (.tmp 3) = .string (zaC c cs) := hfr _ rfl
    refine zf (u := .string (zaC c cs)) (w' := w1) (by go_simp) ⟨Below.refl _ _, rfl, xN1, hG⟩
   ·intro ρ w1 hG hfr hd
    obtain ⟨fc, ff⟩ := xF1 hfr
    obtain ⟨d0, -⟩ := hd
    have d0 : (ρ (.tmp 32)) = .string (zaC c cs) := d0
    refine zf (u := .string (zaC c cs ++ (⟨#[32]⟩ : ByteArray))) (w' := w1) (by go_simp) ⟨Below.refl _ _, rfl, xN1, hG⟩
   ·intro ρ w1 hG hfr hd
    obtain ⟨fc, ff⟩ := xF1 hfr
    have f1 : ρ (.tmp 1) = .pointer (some ⟨w.heap.size, 0, none⟩) := hfr _ rfl
    refine zf (u := .pointer (some ⟨w.heap.size, 1, none⟩)) (w' := w1) (by go_simp) ⟨Below.refl _ _, rfl, xN1, hG⟩
   ·intro ρ w1 hG hfr hd
    obtain ⟨fc, ff⟩ := xF1 hfr
    obtain ⟨d0, -⟩ := hd
    have d0 : (ρ (.tmp 34)) = .pointer (some ⟨w.heap.size, 1, none⟩) := d0
    have c1 := zd hG c1
    refine zf (u := .int .i64 o.on) (w' := w1) (by go_simp) ⟨Below.refl _ _, rfl, xN1, hG⟩
   ·intro ρ w1 hG hfr hd
    obtain ⟨fc, ff⟩ := xF1 hfr
    obtain ⟨d0, -⟩ := hd
    have d0 : (ρ (.tmp 35)) = .int .i64 o.on := d0
    refine zL (by go_simp; exact ⟨⟨rfl, rfl⟩, rfl⟩) ?_
    refine (zdo o.on _ H1.out.1 H1.out.2).mono ?_
    rintro e w2 ⟨rfl, hb⟩
    exact ⟨_, rfl, hb, rfl, xN1, hG.trans (hb.mono hG.size)⟩
   ·intro ρ w1 hG hfr hd
    obtain ⟨fc, ff⟩ := xF1 hfr
    obtain ⟨d0, d1, -⟩ := hd
    have d0 : (ρ (.tmp 33)) = .string (zaC c cs ++ (⟨#[32]⟩ : ByteArray)) := d0
    have d1 : (ρ (.tmp 36)) = .string (decI o.on) := d1
    refine zf (u := .string (zaC c cs ++ (⟨#[32]⟩ : ByteArray) ++ decI o.on)) (w' := w1) (by go_simp) ⟨Below.refl _ _, rfl, xN1, hG⟩
   ·intro ρ w1 hG hfr hd
    obtain ⟨fc, ff⟩ := xF1 hfr
    obtain ⟨d0, -⟩ := hd
    have d0 : (ρ (.tmp 37)) = .string (zaC c cs ++ (⟨#[32]⟩ : ByteArray) ++ decI o.on) := d0
    refine zf (u := .string (zaC c cs ++ (⟨#[32]⟩ : ByteArray) ++ decI o.on ++ (⟨#[32]⟩ : ByteArray))) (w' := w1) (by go_simp) ⟨Below.refl _ _, rfl, xN1, hG⟩
   ·intro ρ w1 hG hfr hd
    obtain ⟨fc, ff⟩ := xF1 hfr
    have f1 : ρ (.tmp 1) = .pointer (some ⟨w.heap.size, 0, none⟩) := hfr _ rfl
    refine zf (u := .pointer (some ⟨w.heap.size, 2, none⟩)) (w' := w1) (by go_simp) ⟨Below.refl _ _, rfl, xN1, hG⟩
   ·intro ρ w1 hG hfr hd
    obtain ⟨fc, ff⟩ := xF1 hfr
    obtain ⟨d0, -⟩ := hd
    have d0 : (ρ (.tmp 39)) = .pointer (some ⟨w.heap.size, 2, none⟩) := d0
    have c2 := zd hG c2
    refine zf (u := .int .i64 o.arg) (w' := w1) (by go_simp) ⟨Below.refl _ _, rfl, xN1, hG⟩
   ·intro ρ w1 hG hfr hd
    obtain ⟨fc, ff⟩ := xF1 hfr
    obtain ⟨d0, -⟩ := hd
    have d0 : (ρ (.tmp 40)) = .int .i64 o.arg := d0
    refine zL (by go_simp; exact ⟨⟨rfl, rfl⟩, rfl⟩) ?_
    refine (zdo o.arg _ H2.out.1 H2.out.2).mono ?_
    rintro e w2 ⟨rfl, hb⟩
    exact ⟨_, rfl, hb, rfl, xN1, hG.trans (hb.mono hG.size)⟩
   ·intro ρ w1 hG hfr hd
    obtain ⟨fc, ff⟩ := xF1 hfr
    obtain ⟨d0, d1, -⟩ := hd
    have d0 : (ρ (.tmp 38)) = .string (zaC c cs ++ (⟨#[32]⟩ : ByteArray) ++ decI o.on ++ (⟨#[32]⟩ : ByteArray)) := d0
    have d1 : (ρ (.tmp 41)) = .string (decI o.arg) := d1
    refine zf (u := .string (zaC c cs ++ (⟨#[32]⟩ : ByteArray) ++ decI o.on ++ (⟨#[32]⟩ : ByteArray) ++ decI o.arg)) (w' := w1) (by go_simp) ⟨Below.refl _ _, rfl, xN1, hG⟩
  intro vs w2 hG hlen hall hap hbd
  obtain ⟨xv0, vs0, rfl, hl0⟩ := zk hlen
  obtain ⟨xv1, vs1, rfl, hl1⟩ := zk hl0
  obtain ⟨xv2, vs2, rfl, hl2⟩ := zk hl1
  obtain ⟨xv3, vs3, rfl, hl3⟩ := zk hl2
  obtain ⟨xv4, vs4, rfl, hl4⟩ := zk hl3
  obtain ⟨xv5, vs5, rfl, hl5⟩ := zk hl4
  obtain ⟨xv6, vs6, rfl, hl6⟩ := zk hl5
  obtain ⟨xv7, vs7, rfl, hl7⟩ := zk hl6
  obtain ⟨xv8, vs8, rfl, hl8⟩ := zk hl7
  obtain ⟨xv9, vs9, rfl, hl9⟩ := zk hl8
  obtain ⟨xv10, vs10, rfl, hl10⟩ := zk hl9
  obtain rfl := zb0 hl10
  clear hlen hl0 hl1 hl2 hl3 hl4 hl5 hl6 hl7 hl8 hl9 hl10
  simp only [List.take_succ_cons, List.take_zero, List.drop_succ_cons, List.drop_zero] at hall ⊢
  obtain ⟨t0', t1', t2', t3', t4', t5', t6', t7', t8', t9', t10', -⟩ := hall
  have hv0 : xv0 = .string (zaC c cs) := t0'
  have hv1 : xv1 = .string (zaC c cs ++ (⟨#[32]⟩ : ByteArray)) := t1'
  have hv2 : xv2 = .pointer (some ⟨w.heap.size, 1, none⟩) := t2'
  have hv3 : xv3 = .int .i64 o.on := t3'
  have hv4 : xv4 = .string (decI o.on) := t4'
  have hv5 : xv5 = .string (zaC c cs ++ (⟨#[32]⟩ : ByteArray) ++ decI o.on) := t5'
  have hv6 : xv6 = .string (zaC c cs ++ (⟨#[32]⟩ : ByteArray) ++ decI o.on ++ (⟨#[32]⟩ : ByteArray)) := t6'
  have hv7 : xv7 = .pointer (some ⟨w.heap.size, 2, none⟩) := t7'
  have hv8 : xv8 = .int .i64 o.arg := t8'
  have hv9 : xv9 = .string (decI o.arg) := t9'
  have hv10 : xv10 = .string (zaC c cs ++ (⟨#[32]⟩ : ByteArray) ++ decI o.on ++ (⟨#[32]⟩ : ByteArray) ++ decI o.arg) := t10'
  clear t0' t1' t2' t3' t4' t5' t6' t7' t8' t9' t10'
  clear hap hbd
  subst hv0 hv1 hv2 hv3 hv4 hv5 hv6 hv7 hv8 hv9 hv10
  simp only [z9, Act.put, List.setIfInBounds_toArray, List.set_cons_succ, List.set_cons_zero]
  go_wp2
  go_ret
  exact ⟨zck (by rw [HR.out, HW.out]; rfl), B0.trans (hG.mono B0.size)⟩
theorem zgU {l : List Int} {lo hi : Int} {k : Nat} (hk : k < l.length) (h : ¬ (lo ≤ l.getD k 0 ∧ l.getD k 0 ≤ hi)) : zae l lo hi = false := by
 unfold zae
 have : l.all (fun n => decide (lo ≤ n) && decide (n ≤ hi)) = false := by
  rw [List.all_eq_false]
  refine ⟨l[k], List.getElem_mem hk, ?_⟩
  have e : l.getD k 0 = l[k] := by simp [List.getD, hk]
  rw [e] at h
  simp only [Bool.and_eq_true, decide_eq_true_eq]; exact h
 rw [this]; simp
theorem zis {l : List Int} {lo hi : Int} (h : ∀ j, j < l.length → lo ≤ l.getD j 0 ∧ l.getD j 0 ≤ hi) : zae l lo hi = decide (l.length ≤ 3) := by
 unfold zae
 have : l.all (fun n => decide (lo ≤ n) && decide (n ≤ hi)) = true := by
  rw [List.all_eq_true]
  intro x hx
  obtain ⟨k, hk, rfl⟩ := List.getElem_of_mem hx
  have e : l.getD k 0 = l[k] := by simp [List.getD, hk]
  have := h k hk
  rw [e] at this
  simp [this.1, this.2]
 rw [this]; simp
theorem zf9 {l : List Int} {lo hi : Int} (h : 3 < l.length) : zae l lo hi = false := by
 unfold zae
 rw [show decide (l.length ≤ 3) = false by simp; omega]; simp
theorem zW (a : Option Addr) (n c : Nat) (l : List Int) (lo hi : Int) (w : World) (hl : l.length = n) (hn : n ≤ maxLen) (hr : Rd w a (ints l)) :
  Calls Try.prog 30 #[.slice a n c, .int .i64 lo, .int .i64 hi] w fun e w' => e = .returned (.bool (zae l lo hi)) ∧ w' = w := by
 unfold maxLen at hn
 have HL := xH1 hl
 clear hl
 go_enter Try.func30, Try.ntmps30
 go_wp2
 go_loopw [7] (fun i wr => ∃ k : Nat, k ≤ n ∧ k ≤ 4 ∧ i = .int .i64 k ∧ Hid (∀ j, j < k → lo ≤ l.getD j 0 ∧ l.getD j 0 ≤ hi) ∧ wr = w) (fun i _ => n - (intOf i).toNat)
 case atStart => exact ⟨0, by omega, by omega, rfl, xH1 (by omega), rfl⟩
 case round =>
  obtain ⟨k, hk, hk4, rfl, hall, rfl⟩ := hrel
  by_cases hlt : k < n
  ·by_cases h3 : k ≤ 3
   ·obtain ⟨b, q, rfl, hc⟩ := hr.int (by have := HL.out; omega)
    have g := hc k (by have := HL.out; omega)
    obtain ⟨x, hx⟩ : ∃ x, x = l.getD k 0 := ⟨_, rfl⟩
    rw [← hx] at g
    have HX := xH1 hx
    clear hc hx
    by_cases t1 : x < lo
    ·have HB : Hid (zae l lo hi = false) := xH1 (zgU (k := k) (by have := HL.out; omega) (by rw [← HX.out]; omega))
     go_wp2
     go_ret
     exact ⟨zt (by rw [HB.out]), rfl⟩
    ·by_cases t2 : hi < x
     ·have HB : Hid (zae l lo hi = false) := xH1 (zgU (k := k) (by have := HL.out; omega) (by rw [← HX.out]; omega))
      have d1 : decide (x < lo) = false := by simpa using t1
      go_wp2
      go_ret
      exact ⟨zt (by rw [HB.out]), rfl⟩
     ·have d1 : decide (x < lo) = false := by simpa using t1
      have d2 : decide (hi < x) = false := by simpa using t2
      go_wp2
      go_roundw
      case rel => exact ⟨k + 1, by omega, by omega, by go_num, xH1 (fun j hj => by
       rcases Nat.lt_or_ge j k with h | h
       ·exact hall.out j h
       ·have : j = k := by omega
        subst this
        rw [← HX.out]; omega), trivial⟩
      case measure => simp [intOf]; omega
   ·have hk' : k = 4 := by omega
    subst hk'
    have HB : Hid (zae l lo hi = false) := xH1 (zf9 (by have := HL.out; omega))
    clear h3
    have hd : decide ((n : Int) ≤ 3) = false := by simp; omega
    go_wp2
    go_ret
    exact ⟨zt (by rw [HB.out]), rfl⟩
  ·have hkm : k = n := by omega
   subst hkm
   have HB : Hid (zae l lo hi = decide ((k : Int) ≤ 3)) := xH1 (by
    rw [zis (by rw [HL.out]; exact hall.out), HL.out]
    exact decide_eq_decide.2 (by omega))
   go_wp2
   go_ret
   exact ⟨zt (by rw [HB.out]), rfl⟩
end Go.Proofs.Ytppoohbkkdgljaa
namespace Go.Proofs.Ytppoohbkkdgljaa
open Go.RowKit Go.Sort
theorem zfk {p : Pg} {i k : Nat} (hi : i < p.threads.length) (hk : k < (p.threads.getD i []).length) (h : zF p ((p.threads.getD i []).getD k noOp) = false) : zq p = false := by
 have : p.threads.all (fun t => decide (t.length ≤ 8) && t.all (zF p)) = false := by
  rw [List.all_eq_false]
  have e : p.threads.getD i [] = p.threads[i] := by simp [List.getD, hi]
  rw [e] at hk h
  refine ⟨p.threads[i], List.getElem_mem hi, ?_⟩
  have e2 : (p.threads[i]).getD k noOp = (p.threads[i])[k] := by simp [List.getD, hk]
  rw [e2] at h
  have : (p.threads[i]).all (zF p) = false := by
   rw [List.all_eq_false]; exact ⟨_, List.getElem_mem hk, by rw [h]; simp⟩
  rw [this]; simp
 unfold zq; rw [this]; simp
theorem zdS {p : Pg} {i : Nat} (hi : i < p.threads.length) (h : 8 < (p.threads.getD i []).length) : zq p = false := by
 have : p.threads.all (fun t => decide (t.length ≤ 8) && t.all (zF p)) = false := by
  rw [List.all_eq_false]
  have e : p.threads.getD i [] = p.threads[i] := by simp [List.getD, hi]
  rw [e] at h
  exact ⟨p.threads[i], List.getElem_mem hi, by rw [show decide ((p.threads[i]).length ≤ 8) = false by simp; omega]; simp⟩
 unfold zq; rw [this]; simp
theorem zfN {p : Pg} (h1 : zae p.sems 1 9 = true) (h2 : zae p.groups 0 9 = true) (h3 : zae p.barriers 1 6 = true) (h4 : zae p.rooms 0 4 = true) (h5 : 1 ≤ p.threads.length) (h6 : p.threads.length ≤ 4)
  (h : ∀ i, i < p.threads.length → (p.threads.getD i []).length ≤ 8 ∧ ∀ k, k < (p.threads.getD i []).length → zF p ((p.threads.getD i []).getD k noOp) = true) : zq p = true := by
 have : p.threads.all (fun t => decide (t.length ≤ 8) && t.all (zF p)) = true := by
  rw [List.all_eq_true]
  intro t ht
  obtain ⟨i, hi, rfl⟩ := List.getElem_of_mem ht
  have e : p.threads.getD i [] = p.threads[i] := by simp [List.getD, hi]
  have := h i hi
  rw [e] at this
  have h2 : (p.threads[i]).all (zF p) = true := by
   rw [List.all_eq_true]
   intro o ho
   obtain ⟨k, hk, rfl⟩ := List.getElem_of_mem ho
   have e2 : (p.threads[i]).getD k noOp = (p.threads[i])[k] := by simp [List.getD, hk]
   rw [← e2]; exact this.2 k hk
  rw [h2]; simp [this.1]
 unfold zq
 rw [h1, h2, h3, h4, this]; simp; omega
theorem za2 (v : PV) (p : Pg) (w : World) (hr : RdP w v p) (hz : zbb v p) :
  Calls Try.prog 14 #[.agg #[.slice v.s v.ns v.cs, .slice v.g v.ng v.cg, .slice v.b v.nb v.cb, .slice v.r v.nr v.cr, .slice v.t v.nt v.ct]] w fun e w' => e = .returned (.bool (zq p)) ∧ Below w.heap.size w w' := by
 have hs : v.ns ≤ maxLen ∧ v.ng ≤ maxLen ∧ v.nb ≤ maxLen ∧ v.nr ≤ maxLen := by
  obtain ⟨z1, z2, z3, z4, z5, z6⟩ := hz; unfold maxLen; omega
 have zz : Hid (v.ns ≤ maxLen ∧ v.ng ≤ maxLen ∧ v.nb ≤ maxLen ∧ v.nr ≤ maxLen) := xH1 hs
 have z5 : v.nt ≤ 1048576 := hz.lt
 have Z6 := xH1 hz.inn
 have ls := xH1 hr.ls
 have lg := xH1 hr.lg
 have lb := xH1 hr.lb
 have lr := xH1 hr.lr
 have lt := xH1 hr.lt
 clear hz
 have b0 : Below w.heap.size w (w.alloc (.cells #[.slice v.s v.ns v.cs, .slice v.g v.ng v.cg, .slice v.b v.nb v.cb, .slice v.r v.nr v.cr, .slice v.t v.nt v.ct] 26)) := xA1
 rcases Bool.eq_false_or_eq_true (zae p.sems 1 9) with h1 | h1
 rotate_left
 ·have HB : Hid (zq p = false) := xH1 (by unfold zq; rw [h1]; simp)
  replace h1 := xH1 h1
  go_enter Try.func14, Try.ntmps14
  go_wp2_with fail
  refine (zW v.s v.ns v.cs p.sems 1 9 _ ls.out (by have := zz.out; omega) (hr.rs.below b0)).mono ?_
  rintro e w1 ⟨rfl, rfl⟩
  rw [h1.out]
  go_wp2
  go_ret
  exact ⟨zt (by rw [HB.out]), b0⟩
 replace h1 := xH1 h1
 rcases Bool.eq_false_or_eq_true (zae p.groups 0 9) with h2 | h2
 rotate_left
 ·have HB : Hid (zq p = false) := xH1 (by unfold zq; rw [h2]; simp)
  replace h2 := xH1 h2
  go_enter Try.func14, Try.ntmps14
  go_wp2_with fail
  refine (zW v.s v.ns v.cs p.sems 1 9 _ ls.out (by have := zz.out; omega) (hr.rs.below b0)).mono ?_
  rintro e w1 ⟨rfl, rfl⟩
  rw [h1.out]
  go_wp2_with fail
  refine (zW v.g v.ng v.cg p.groups 0 9 _ lg.out (by have := zz.out; omega) (hr.rg.below b0)).mono ?_
  rintro e w2 ⟨rfl, rfl⟩
  rw [h2.out]
  go_wp2
  go_ret
  exact ⟨zt (by rw [HB.out]), b0⟩
 replace h2 := xH1 h2
 rcases Bool.eq_false_or_eq_true (zae p.barriers 1 6) with h3 | h3
 rotate_left
 ·have HB : Hid (zq p = false) := xH1 (by unfold zq; rw [h3]; simp)
  replace h3 := xH1 h3
  go_enter Try.func14, Try.ntmps14
  go_wp2_with fail
  refine (zW v.s v.ns v.cs p.sems 1 9 _ ls.out (by have := zz.out; omega) (hr.rs.below b0)).mono ?_
  rintro e w1 ⟨rfl, rfl⟩
  rw [h1.out]
  go_wp2_with fail
  refine (zW v.g v.ng v.cg p.groups 0 9 _ lg.out (by have := zz.out; omega) (hr.rg.below b0)).mono ?_
  rintro e w2 ⟨rfl, rfl⟩
  rw [h2.out]
  go_wp2_with fail
  refine (zW v.b v.nb v.cb p.barriers 1 6 _ lb.out (by have := zz.out; omega) (hr.rb.below b0)).mono ?_
  rintro e w3 ⟨rfl, rfl⟩
  rw [h3.out]
  go_wp2
  go_ret
  exact ⟨zt (by rw [HB.out]), b0⟩
 replace h3 := xH1 h3
 rcases Bool.eq_false_or_eq_true (zae p.rooms 0 4) with h4 | h4
 rotate_left
 ·have HB : Hid (zq p = false) := xH1 (by unfold zq; rw [h4]; simp)
  replace h4 := xH1 h4
  go_enter Try.func14, Try.ntmps14
  go_wp2_with fail
  refine (zW v.s v.ns v.cs p.sems 1 9 _ ls.out (by have := zz.out; omega) (hr.rs.below b0)).mono ?_
  rintro e w1 ⟨rfl, rfl⟩
  rw [h1.out]
  go_wp2_with fail
  refine (zW v.g v.ng v.cg p.groups 0 9 _ lg.out (by have := zz.out; omega) (hr.rg.below b0)).mono ?_
  rintro e w2 ⟨rfl, rfl⟩
  rw [h2.out]
  go_wp2_with fail
  refine (zW v.b v.nb v.cb p.barriers 1 6 _ lb.out (by have := zz.out; omega) (hr.rb.below b0)).mono ?_
  rintro e w3 ⟨rfl, rfl⟩
  rw [h3.out]
  go_wp2_with fail
  refine (zW v.r v.nr v.cr p.rooms 0 4 _ lr.out (by have := zz.out; omega) (hr.rr.below b0)).mono ?_
  rintro e w4 ⟨rfl, rfl⟩
  rw [h4.out]
  go_wp2
  go_ret
  exact ⟨zt (by rw [HB.out]), b0⟩
 replace h4 := xH1 h4
 by_cases h5 : v.nt < 1
 ·have HB : Hid (zq p = false) := xH1 (by
   have := lt.out
   unfold zq
   rw [show decide (1 ≤ p.threads.length) = false from decide_eq_false (by omega)]; simp)
  have t5 : decide ((v.nt : Int) < 1) = true := by simp; omega
  go_enter Try.func14, Try.ntmps14
  go_wp2_with fail
  refine (zW v.s v.ns v.cs p.sems 1 9 _ ls.out (by have := zz.out; omega) (hr.rs.below b0)).mono ?_
  rintro e w1 ⟨rfl, rfl⟩
  rw [h1.out]
  go_wp2_with fail
  refine (zW v.g v.ng v.cg p.groups 0 9 _ lg.out (by have := zz.out; omega) (hr.rg.below b0)).mono ?_
  rintro e w2 ⟨rfl, rfl⟩
  rw [h2.out]
  go_wp2_with fail
  refine (zW v.b v.nb v.cb p.barriers 1 6 _ lb.out (by have := zz.out; omega) (hr.rb.below b0)).mono ?_
  rintro e w3 ⟨rfl, rfl⟩
  rw [h3.out]
  go_wp2_with fail
  refine (zW v.r v.nr v.cr p.rooms 0 4 _ lr.out (by have := zz.out; omega) (hr.rr.below b0)).mono ?_
  rintro e w4 ⟨rfl, rfl⟩
  rw [h4.out]
  go_wp2
  go_ret
  exact ⟨zt (by rw [HB.out]), b0⟩
 have t5 : decide ((v.nt : Int) < 1) = false := by simp; omega
 by_cases h6 : 4 < v.nt
 ·have HB : Hid (zq p = false) := xH1 (by
   have := lt.out
   unfold zq
   rw [show decide (p.threads.length ≤ 4) = false from decide_eq_false (by omega)]; simp)
  have t6 : decide ((4 : Int) < v.nt) = true := by simp; omega
  go_enter Try.func14, Try.ntmps14
  go_wp2_with fail
  refine (zW v.s v.ns v.cs p.sems 1 9 _ ls.out (by have := zz.out; omega) (hr.rs.below b0)).mono ?_
  rintro e w1 ⟨rfl, rfl⟩
  rw [h1.out]
  go_wp2_with fail
  refine (zW v.g v.ng v.cg p.groups 0 9 _ lg.out (by have := zz.out; omega) (hr.rg.below b0)).mono ?_
  rintro e w2 ⟨rfl, rfl⟩
  rw [h2.out]
  go_wp2_with fail
  refine (zW v.b v.nb v.cb p.barriers 1 6 _ lb.out (by have := zz.out; omega) (hr.rb.below b0)).mono ?_
  rintro e w3 ⟨rfl, rfl⟩
  rw [h3.out]
  go_wp2_with fail
  refine (zW v.r v.nr v.cr p.rooms 0 4 _ lr.out (by have := zz.out; omega) (hr.rr.below b0)).mono ?_
  rintro e w4 ⟨rfl, rfl⟩
  rw [h4.out]
  go_wp2
  go_ret
  exact ⟨zt (by rw [HB.out]), b0⟩
 have t6 : decide ((4 : Int) < v.nt) = false := by simp; omega
 obtain ⟨vs, hT⟩ := hr.rt
 have kP : Blk (w.alloc (.cells #[.slice v.s v.ns v.cs, .slice v.g v.ng v.cg, .slice v.b v.nb v.cb, .slice v.r v.nr v.cr, .slice v.t v.nt v.ct] 26)) w.heap.size #[.slice v.s v.ns v.cs, .slice v.g v.ng v.cg, .slice v.b v.nb v.cb, .slice v.r v.nr v.cr, .slice v.t v.nt v.ct] 26 := Blk.new _ _ _
 go_enter Try.func14, Try.ntmps14
 go_wp2_with fail
 refine (zW v.s v.ns v.cs p.sems 1 9 _ ls.out (by have := zz.out; omega) (hr.rs.below b0)).mono ?_
 rintro e w1 ⟨rfl, rfl⟩
 rw [h1.out]
 go_wp2_with fail
 refine (zW v.g v.ng v.cg p.groups 0 9 _ lg.out (by have := zz.out; omega) (hr.rg.below b0)).mono ?_
 rintro e w2 ⟨rfl, rfl⟩
 rw [h2.out]
 go_wp2_with fail
 refine (zW v.b v.nb v.cb p.barriers 1 6 _ lb.out (by have := zz.out; omega) (hr.rb.below b0)).mono ?_
 rintro e w3 ⟨rfl, rfl⟩
 rw [h3.out]
 go_wp2_with fail
 refine (zW v.r v.nr v.cr p.rooms 0 4 _ lr.out (by have := zz.out; omega) (hr.rr.below b0)).mono ?_
 rintro e w4 ⟨rfl, rfl⟩
 rw [h4.out]
 go_wp2
 obtain ⟨W, hW⟩ : ∃ W : World, W = (w.alloc (.cells #[.slice v.s v.ns v.cs, .slice v.g v.ng v.cg, .slice v.b v.nb v.cb, .slice v.r v.nr v.cr, .slice v.t v.nt v.ct] 26)) := ⟨_, rfl⟩
 have hsz : w.heap.size < W.heap.size := by rw [hW]; simp
 rw [← hW] at kP b0 ⊢
 clear hW
 go_loopw [3] (fun i wr => ∃ i' : Nat, i' ≤ v.nt ∧ i = .int .i64 i' ∧ Hid (∀ j, j < i' → (p.threads.getD j []).length ≤ 8 ∧ ∀ k, k < (p.threads.getD j []).length → zF p ((p.threads.getD j []).getD k noOp) = true) ∧ Below W.heap.size W wr) (fun i _ => v.nt - (intOf i).toNat)
 case atStart => exact ⟨0, by omega, rfl, xH1 (by omega), Below.refl _ _⟩
 case round =>
  obtain ⟨i, hi, rfl, hall, hb0⟩ := hrel
  have k1 := kP.below hb0
  have c0 := k1.cell 0 rfl
  have c1 := k1.cell 1 rfl
  have c2 := k1.cell 2 rfl
  have c3 := k1.cell 3 rfl
  have c4 := k1.cell 4 rfl
  have B0 : Below w.heap.size w wr := b0.trans (hb0.mono (Nat.le_of_lt hsz))
  by_cases hlt : i < v.nt
  ·obtain ⟨wo, hwo⟩ : ∃ wo : World, wo = wr := ⟨_, rfl⟩
   rw [← hwo] at hb0 k1 c0 c1 c2 c3 c4 B0 ⊢
   clear hwo wr
   obtain ⟨b1, o1, ea, g1'⟩ := (hT.below B0).thread (by have := lt.out; omega)
   obtain ⟨a2, x2, g1, r2⟩ := g1' i (by have := lt.out; omega)
   obtain ⟨m, hm⟩ : ∃ m, m = (p.threads.getD i []).length := ⟨_, rfl⟩
   rw [← hm] at g1
   have hmm := Z6.out i
   rw [← hm] at hmm
   have HM := xH1 hm
   rw [ea] at c4
   have HRP : Hid (∀ w', RdP w' v p → RdP w' ⟨v.s, v.ns, v.cs, v.g, v.ng, v.cg, v.b, v.nb, v.cb, v.r, v.nr, v.cr, some ⟨b1, o1, none⟩, v.nt, v.ct⟩ p) := xH1 (by rw [← ea]; exact fun _ h => h)
   clear g1' hm ea
   go_wp2
   go_loopw [4] (fun j wk => ∃ k : Nat, k ≤ m ∧ k ≤ 9 ∧ j = .int .i64 k ∧ Hid (∀ j, j < k → zF p ((p.threads.getD i []).getD j noOp) = true) ∧ Below wo.heap.size wo wk) (fun j _ => m - (intOf j).toNat)
   case atStart => exact ⟨0, by omega, by omega, rfl, xH1 (by omega), Below.refl _ _⟩
   case round =>
    obtain ⟨k, hk, hk9, rfl, hok, hbk⟩ := hrel
    have d0 := zd hbk c0
    have d1 := zd hbk c1
    have d2 := zd hbk c2
    have d3 := zd hbk c3
    have d4 := zd hbk c4
    have f1 := zd hbk g1
    have B1 : Below w.heap.size w wr := B0.trans (hbk.mono B0.size)
    have BW : Below W.heap.size W wr := hb0.trans (hbk.mono hb0.size)
    by_cases hkl : k < m
    ·by_cases hk8 : k ≤ 8
     ·obtain ⟨b2, o2, ea2, g2'⟩ := r2.op (by have := HM.out; omega)
      obtain ⟨g2a, g2b, g2c⟩ := g2' k (by have := HM.out; omega)
      obtain ⟨o, ho⟩ : ∃ o, o = (p.threads.getD i []).getD k noOp := ⟨_, rfl⟩
      rw [← ho] at g2a g2b g2c
      replace g2a := zd hbk g2a
      replace g2b := zd hbk g2b
      replace g2c := zd hbk g2c
      have HO := xH1 ho
      rw [ea2] at f1
      clear g2' ho ea2
      have kd0 := cell_regrown d0
      have kd1 := cell_regrown d1
      have kd2 := cell_regrown d2
      have kd3 := cell_regrown d3
      have kd4 := cell_regrown d4
      have kf1 := cell_regrown f1
      have kg2a := cell_regrown g2a
      have kg2b := cell_regrown g2b
      have kg2c := cell_regrown g2c
      have e8 : decide ((k : Int) ≤ 8) = true := by simp; omega
      rcases Bool.eq_false_or_eq_true (zF p o) with hv | hv
      ·have HV := xH1 hv
       have cV : Hid (∀ d os, Calls Try.prog 31 #[.agg #[.slice v.s v.ns v.cs, .slice v.g v.ng v.cg, .slice v.b v.nb v.cb, .slice v.r v.nr v.cr, .slice (some ⟨b1, o1, none⟩) v.nt v.ct], .agg #[.int .i64 o.kind, .int .i64 o.on, .int .i64 o.arg]] (grow (redrawn wr d) os) fun e w'' => e = .returned (.bool true) ∧ ∃ p : Regrown, w'' = grow (redrawn wr p.d) p.os) := xH1 (fun d os => Calls.regrown_of (by
        have := za6 ⟨v.s, v.ns, v.cs, v.g, v.ng, v.cg, v.b, v.nb, v.cb, v.r, v.nr, v.cr, some ⟨b1, o1, none⟩, v.nt, v.ct⟩ p o (grow (redrawn wr d) os) (HRP.out _ ((hr.below B1).below (below_regrown wr d os))) zz.out; rw [hv] at this; exact this))
       clear hv
       go_wp2
       refine wp_region_quiet_below (by kernel_rfl) (by kernel_rfl) ?_
       repeat (go_big_quiet_step (exact cV.out _ _))
       refine wpQuiet_nil ?_
       intro w6 hw6
       have hbw : Below wr.heap.size wr w6 := by
        obtain ⟨pq, rfl⟩ := hw6
        exact below_regrown _ _ _
       clear hw6
       go_wp2
       go_roundw
       case rel => exact ⟨k + 1, by omega, by omega, by go_num, xH1 (fun j hj => by
        rcases Nat.lt_or_ge j k with h | h
        ·exact hok.out j h
        ·have : j = k := by omega
         subst this
         rw [← HO.out]; exact HV.out), hbk.trans (hbw.mono hbk.size)⟩
       case measure => simp [intOf]; omega
      ·have HV := xH1 hv
       have cV : Hid (∀ d os, Calls Try.prog 31 #[.agg #[.slice v.s v.ns v.cs, .slice v.g v.ng v.cg, .slice v.b v.nb v.cb, .slice v.r v.nr v.cr, .slice (some ⟨b1, o1, none⟩) v.nt v.ct], .agg #[.int .i64 o.kind, .int .i64 o.on, .int .i64 o.arg]] (grow (redrawn wr d) os) fun e w'' => e = .returned (.bool false) ∧ ∃ p : Regrown, w'' = grow (redrawn wr p.d) p.os) := xH1 (fun d os => Calls.regrown_of (by
        have := za6 ⟨v.s, v.ns, v.cs, v.g, v.ng, v.cg, v.b, v.nb, v.cb, v.r, v.nr, v.cr, some ⟨b1, o1, none⟩, v.nt, v.ct⟩ p o (grow (redrawn wr d) os) (HRP.out _ ((hr.below B1).below (below_regrown wr d os))) zz.out; rw [hv] at this; exact this))
       clear hv
       have HB : Hid (zq p = false) := xH1 (zfk (i := i) (k := k) (by have := lt.out; omega) (by have := HM.out; omega) (by rw [← HO.out]; exact HV.out))
       go_wp2
       refine wp_region_quiet_below (by kernel_rfl) (by kernel_rfl) ?_
       repeat (go_big_quiet_step (exact cV.out _ _))
       refine wpQuiet_nil ?_
       intro w6 hw6
       have hbw : Below wr.heap.size wr w6 := by
        obtain ⟨pq, rfl⟩ := hw6
        exact below_regrown _ _ _
       clear hw6
       go_wp2
       go_ret
       exact ⟨zt (by rw [HB.out]), B1.trans (hbw.mono B1.size)⟩
     ·have e8 : decide ((k : Int) ≤ 8) = false := by simp; omega
      have e9 : decide ((8 : Int) < m) = true := by simp; omega
      have HB : Hid (zq p = false) := xH1 (zdS (i := i) (by have := lt.out; omega) (by have := HM.out; omega))
      go_wp2
      go_ret
      exact ⟨zt (by rw [HB.out]), B1⟩
    ·have hkm : k = m := by omega
     subst hkm
     by_cases hm8 : 8 < k
     ·have e9 : decide ((8 : Int) < k) = true := by simp; omega
      have HB : Hid (zq p = false) := xH1 (zdS (i := i) (by have := lt.out; omega) (by have := HM.out; omega))
      go_wp2
      go_ret
      exact ⟨zt (by rw [HB.out]), B1⟩
     ·have e9 : decide ((8 : Int) < k) = false := by simp; omega
      go_wp2
      go_roundw
      case rel => exact ⟨i + 1, by omega, by go_num, xH1 (fun j hj => by
       rcases Nat.lt_or_ge j i with h | h
       ·exact hall.out j h
       ·have : j = i := by omega
        subst this
        exact ⟨by rw [← HM.out]; omega, by rw [← HM.out]; exact hok.out⟩), BW⟩
      case measure => simp [intOf]; omega
  ·have hkm : i = v.nt := by omega
   subst hkm
   have HB : Hid (zq p = true) := xH1 (zfN h1.out h2.out h3.out h4.out (by have := lt.out; omega) (by have := lt.out; omega) (by rw [lt.out]; exact hall.out))
   go_wp2
   go_ret
   exact ⟨zt (by rw [HB.out]), B0⟩
end Go.Proofs.Ytppoohbkkdgljaa
namespace Go.Proofs.Ytppoohbkkdgljaa
open Go.RowKit
theorem zcZ (n : Int) (w : World) :
  Calls Try.prog 74 #[.int .i64 n] w fun e w' => e = .returned (.bool (zbR n)) ∧ w' = w := by
 by_cases h : 0 ≤ n
 ·have h' : zbR n = decide (n ≤ 99) := by simp [zbR, h]
  rw [h']
  go_enter Try.func74, Try.ntmps74
  go_wp2
  go_ret
  exact ⟨rfl, rfl⟩
 ·have h' : zbR n = false := by simp [zbR, h]
  have hd : decide (0 ≤ n) = false := by simpa using h
  rw [h']
  go_enter Try.func74, Try.ntmps74
  go_wp2
  go_ret
  exact ⟨rfl, rfl⟩
theorem zjx {l : List Int} {q : Int → Bool} (k : Nat) (hk : k < l.length) (h : q (l.getD k 0) = true) : l.any q = true := by
 rw [List.any_eq_true]
 exact ⟨l[k], List.getElem_mem hk, by simpa [List.getD, hk] using h⟩
theorem zjV {l : List Int} {q : Int → Bool} (h : ∀ k, k < l.length → q (l.getD k 0) = false) : l.any q = false := by
 rw [List.any_eq_false]
 intro x hx
 obtain ⟨k, hk, rfl⟩ := List.getElem_of_mem hx
 have := h k hk
 simpa [List.getD, hk] using this
theorem zhP (g : Nat) (lb : Array Value) (q : Int → Bool) (a : Option Addr) (n c : Nat) (l : List Int) (w : World) (eg : ∀ args w, (callFunc g args).run Try.prog w = .ok (.enter g args) w)
  (hl : l.length = n) (hn : n ≤ maxLen) (hr : Rd w a (ints l)) (hp : ∀ x, Calls Try.prog g (#[.int .i64 x] ++ lb) w fun e w' => e = .returned (.bool (q x)) ∧ w' = w) :
  Calls Try.prog 22 #[.slice a n c, .func (.func g) #[] lb] w fun e w' => ∃ r : Int, e = .returned (.int .i64 r) ∧ decide (0 ≤ r) = l.any q ∧ w' = w := by
 unfold maxLen at hn
 have HL := xH1 hl
 clear hl
 go_enter Try.func22, Try.ntmps22
 go_wp2
 go_loopw [8] (fun i wr => ∃ k : Nat, k ≤ n ∧ i = .int .i64 k ∧ Hid (∀ j, j < k → q (l.getD j 0) = false) ∧ wr = w) (fun i _ => n - (intOf i).toNat)
 case atStart => exact ⟨0, by omega, rfl, xH1 (by omega), rfl⟩
 case round =>
  obtain ⟨k, hk, rfl, hall, rfl⟩ := hrel
  by_cases hlt : k < n
  ·obtain ⟨b, o, rfl, hc⟩ := hr.int (by have := HL.out; omega)
   have g1 := hc k (by have := HL.out; omega)
   obtain ⟨x, hx⟩ : ∃ x, x = l.getD k 0 := ⟨_, rfl⟩
   rw [← hx] at g1
   have HX := xH1 hx
   clear hc hx
   rcases Bool.eq_false_or_eq_true (q x) with hq | hq
   ·have HQ := xH1 hq
    clear hq
    go_wp2_with (go_at_fn g; refine (hp x).mono ?_; rintro e w' ⟨rfl, rfl⟩; rw [HQ.out])
    go_ret
    exact ⟨k, rfl, by rw [zjx (q := q) k (by have := HL.out; omega) (by rw [← HX.out]; exact HQ.out)]; simp, rfl⟩
   ·have HQ := xH1 hq
    clear hq
    go_wp2_with (go_at_fn g; refine (hp x).mono ?_; rintro e w' ⟨rfl, rfl⟩; rw [HQ.out])
    go_roundw
    case rel => exact ⟨k + 1, by omega, by go_num, xH1 (fun j hj => by
     rcases Nat.lt_or_ge j k with h | h
     ·exact hall.out j h
     ·have : j = k := by omega
      subst this
      rw [← HX.out]; exact HQ.out), trivial⟩
    case measure => simp [intOf]; omega
  ·have hkm : k = n := by omega
   subst hkm
   go_wp2
   go_ret
   exact ⟨-1, rfl, by rw [zjV (q := q) (by rw [HL.out]; exact hall.out)]; simp, rfl⟩
theorem zgR (g : Nat) (lb : Array Value) (q : Int → Bool) (a : Option Addr) (n c : Nat) (l : List Int) (w : World) (eg : ∀ args w, (callFunc g args).run Try.prog w = .ok (.enter g args) w)
  (hl : l.length = n) (hn : n ≤ maxLen) (hr : Rd w a (ints l)) (hp : ∀ x, Calls Try.prog g (#[.int .i64 x] ++ lb) w fun e w' => e = .returned (.bool (q x)) ∧ w' = w) :
  Calls Try.prog 71 #[.slice a n c, .func (.func g) #[] lb] w fun e w' => e = .returned (.bool (l.any q)) ∧ w' = w := by
 go_enter Try.func71, Try.ntmps71
 go_wp2_with fail
 refine (zhP g lb q a n c l w eg hl hn hr hp).mono ?_
 rintro e w1 ⟨r, rfl, hd, rfl⟩
 have HD := xH1 hd
 clear hd
 go_wp2
 go_ret
 exact ⟨zt HD.out, rfl⟩
theorem zig (x lo hi : Int) (b1 b2 : Nat) (w : World) (h1 : w.cell? ⟨b1, 0, none⟩ = some (.int .i64 lo)) (h2 : w.cell? ⟨b2, 0, none⟩ = some (.int .i64 hi)) :
  Calls Try.prog 72 (#[.int .i64 x] ++ #[.pointer (some ⟨b1, 0, none⟩), .pointer (some ⟨b2, 0, none⟩)]) w fun e w' => e = .returned (.bool (!(decide (lo ≤ x) && decide (x ≤ hi)))) ∧ w' = w := by
 by_cases h : x < lo
 ·have hd : decide (x < lo) = true := by simpa using h
  have HR : Hid ((!(decide (lo ≤ x) && decide (x ≤ hi))) = true) := xH1 (by rw [decide_eq_false (by omega : ¬ lo ≤ x)]; rfl)
  go_enter Try.func72, Try.ntmps72
  go_wp2
  go_ret
  exact ⟨zt (by rw [HR.out]), rfl⟩
 ·have hd : decide (x < lo) = false := by simpa using h
  have HR : Hid ((!(decide (lo ≤ x) && decide (x ≤ hi))) = decide (hi < x)) := xH1 (by
   rw [decide_eq_true (by omega : lo ≤ x), Bool.true_and]
   by_cases hx : x ≤ hi
   ·rw [decide_eq_true hx, decide_eq_false (by omega : ¬ hi < x)]; rfl
   ·rw [decide_eq_false hx, decide_eq_true (by omega : hi < x)]; rfl)
  have hle : decide (lo ≤ x) = true := decide_eq_true (by omega)
  go_enter Try.func72, Try.ntmps72
  go_wp2
  go_ret
  exact ⟨zt (by rw [← HR.out, hle]; rfl), rfl⟩
theorem zim {l : List Int} (q : Int → Bool) : l.any (fun x => !(q x)) = !(l.all q) := by
 induction l with
 | nil => rfl
 | cons a t ih => simp [ih]
theorem zR (a : Option Addr) (n c : Nat) (l : List Int) (lo hi : Int) (w : World) (hl : l.length = n) (hn : n ≤ maxLen) (hr : Rd w a (ints l)) :
  Calls Try.prog 43 #[.slice a n c, .int .i64 lo, .int .i64 hi] w fun e w' => e = .returned (.bool (zae l lo hi)) ∧ Below w.heap.size w w' := by
 have hmf : ∀ (fn : Fn) (first cap : Array Value) (w : World), (Instr.makeFunc fn first cap).run Try.prog w = .ok (.func fn first cap) w := fun _ _ _ _ => rfl
 have b0 : Below w.heap.size w ((w.alloc (.cells #[.int .i64 lo] 3)).alloc (.cells #[.int .i64 hi] 3)) := (xA1).alloc (by simp) _
 have k1 : Blk ((w.alloc (.cells #[.int .i64 lo] 3)).alloc (.cells #[.int .i64 hi] 3)) w.heap.size #[.int .i64 lo] 3 := (Blk.new _ _ _).alloc _
 have k2 : Blk ((w.alloc (.cells #[.int .i64 lo] 3)).alloc (.cells #[.int .i64 hi] 3)) (w.heap.size + 1) #[.int .i64 hi] 3 := by simpa using Blk.new (w.alloc (.cells #[.int .i64 lo] 3)) #[.int .i64 hi] 3
 by_cases h3 : n ≤ 3
 ·have hd : decide ((n : Int) ≤ 3) = true := by simp; omega
  have HR : Hid (zae l lo hi = l.all (fun x => decide (lo ≤ x) && decide (x ≤ hi))) := xH1 (by unfold zae; rw [hl, show decide (n ≤ 3) = true by simpa using h3]; simp)
  go_enter Try.func43, Try.ntmps43
  go_wp2_with fail
  refine (zgR 72 #[.pointer (some ⟨w.heap.size, 0, none⟩), .pointer (some ⟨w.heap.size + 1, 0, none⟩)] (fun x => !(decide (lo ≤ x) && decide (x ≤ hi))) a n c l _ (enters_of Try.func72 (by kernel_rfl) rfl) hl hn (hr.below b0) (fun x => zig x lo hi _ _ _ (k1.cell 0 rfl) (k2.cell 0 rfl))).mono ?_
  rintro e w1 ⟨rfl, rfl⟩
  rw [zim]
  go_wp2
  go_ret
  exact ⟨zt (by rw [HR.out]), b0⟩
 ·have hd : decide ((n : Int) ≤ 3) = false := by simp; omega
  have HR : Hid (zae l lo hi = false) := xH1 (zf9 (by omega))
  go_enter Try.func43, Try.ntmps43
  go_wp2_with fail
  go_ret
  exact ⟨zt (by rw [HR.out]), b0⟩
end Go.Proofs.Ytppoohbkkdgljaa
namespace Go.Proofs.Ytppoohbkkdgljaa
open Go.RowKit Go.Sort
theorem zaU (a : Option Addr) (n c : Nat) (on : Int) (b : Nat) (w : World) (_hn : n ≤ maxLen) (h1 : w.cell? ⟨b, 1, none⟩ = some (.int .i64 on)) :
  Calls Try.prog 73 #[.slice a n c, .pointer (some ⟨b, 0, none⟩)] w fun e w' => e = .returned (.bool (decide (0 ≤ on) && decide (on < n))) ∧ w' = w := by
 unfold maxLen at _hn
 by_cases h : 0 ≤ on
 ·have hd : decide (0 ≤ on) = true := decide_eq_true h
  rw [hd, Bool.true_and]
  go_enter Try.func73, Try.ntmps73
  go_wp2
  go_ret
  exact ⟨rfl, rfl⟩
 ·have hd : decide (0 ≤ on) = false := decide_eq_false h
  rw [hd, Bool.false_and]
  go_enter Try.func73, Try.ntmps73
  go_wp2
  go_ret
  exact ⟨rfl, rfl⟩
theorem ziO {p : Pg} {o : OpD} (h : ¬ (1 ≤ o.kind ∧ o.kind ≤ 10)) : zF p o = false := by
 unfold zF; rw [← Bool.decide_and, decide_eq_false h]; simp
theorem za8 {p : Pg} {o : OpD} (h : ¬ (0 ≤ o.on ∧ o.on < zv p o.kind)) : zF p o = false := by
 unfold zF
 by_cases h0 : 0 ≤ o.on
 ·rw [decide_eq_false (fun h1 : o.on < zv p o.kind => h ⟨h0, h1⟩)]; simp
 ·rw [decide_eq_false h0]; simp
theorem zbC {p : Pg} {o : OpD} (hk : 1 ≤ o.kind ∧ o.kind ≤ 10) (h : 0 ≤ o.on ∧ o.on < zv p o.kind) : zF p o = zaS p o := by
 unfold zF
 rw [decide_eq_true hk.1, decide_eq_true hk.2, decide_eq_true h.1, decide_eq_true h.2]; simp
theorem zeA (v : PV) (p : Pg) (o : OpD) (w : World) (hr : RdP w v p) (hs : v.ns ≤ maxLen ∧ v.ng ≤ maxLen ∧ v.nb ≤ maxLen ∧ v.nr ≤ maxLen) :
  Calls Try.prog 44 #[.agg #[.slice v.s v.ns v.cs, .slice v.g v.ng v.cg, .slice v.b v.nb v.cb, .slice v.r v.nr v.cr, .slice v.t v.nt v.ct], .agg #[.int .i64 o.kind, .int .i64 o.on, .int .i64 o.arg]] w fun e w' => e = .returned (.bool (zF p o)) ∧ Below w.heap.size w w' := by
 have hmf : ∀ (fn : Fn) (first cap : Array Value) (w : World), (Instr.makeFunc fn first cap).run Try.prog w = .ok (.func fn first cap) w := fun _ _ _ _ => rfl
 have kP : Blk ((w.alloc (.cells #[.slice v.s v.ns v.cs, .slice v.g v.ng v.cg, .slice v.b v.nb v.cb, .slice v.r v.nr v.cr, .slice v.t v.nt v.ct] 26)).alloc (.cells #[.int .i64 o.kind, .int .i64 o.on, .int .i64 o.arg] 44)) w.heap.size #[.slice v.s v.ns v.cs, .slice v.g v.ng v.cg, .slice v.b v.nb v.cb, .slice v.r v.nr v.cr, .slice v.t v.nt v.ct] 26 := (Blk.new _ _ _).alloc _
 have kO : Blk ((w.alloc (.cells #[.slice v.s v.ns v.cs, .slice v.g v.ng v.cg, .slice v.b v.nb v.cb, .slice v.r v.nr v.cr, .slice v.t v.nt v.ct] 26)).alloc (.cells #[.int .i64 o.kind, .int .i64 o.on, .int .i64 o.arg] 44)) (w.heap.size + 1) #[.int .i64 o.kind, .int .i64 o.on, .int .i64 o.arg] 44 := by simpa using Blk.new (w.alloc (.cells #[.slice v.s v.ns v.cs, .slice v.g v.ng v.cg, .slice v.b v.nb v.cb, .slice v.r v.nr v.cr, .slice v.t v.nt v.ct] 26)) #[.int .i64 o.kind, .int .i64 o.on, .int .i64 o.arg] 44
 have b0 : Below w.heap.size w ((w.alloc (.cells #[.slice v.s v.ns v.cs, .slice v.g v.ng v.cg, .slice v.b v.nb v.cb, .slice v.r v.nr v.cr, .slice v.t v.nt v.ct] 26)).alloc (.cells #[.int .i64 o.kind, .int .i64 o.on, .int .i64 o.arg] 44)) := (xA1).alloc (by simp) _
 have k0 : ((w.alloc (.cells #[.slice v.s v.ns v.cs, .slice v.g v.ng v.cg, .slice v.b v.nb v.cb, .slice v.r v.nr v.cr, .slice v.t v.nt v.ct] 26)).alloc (.cells #[.int .i64 o.kind, .int .i64 o.on, .int .i64 o.arg] 44)).cell? ⟨w.heap.size + 1, 1, none⟩ = some (.int .i64 o.on) := kO.cell 1 rfl
 have ls := xH1 hr.ls
 have lg := xH1 hr.lg
 have lb := xH1 hr.lb
 have lr := xH1 hr.lr
 obtain ⟨zs, zg, zb, zr⟩ := hs
 obtain ⟨kd, on, ar⟩ := o
 simp only at k0 b0 kP kO
 by_cases hk : 1 ≤ kd ∧ kd ≤ 10
 rotate_left
 ·have HB : Hid (zF p ⟨kd, on, ar⟩ = false) := xH1 (ziO hk)
  have e1 : (kd == 1) = false := by simp; omega
  have e2 : (kd == 2) = false := by simp; omega
  have e3 : (kd == 3) = false := by simp; omega
  have e4 : (kd == 4) = false := by simp; omega
  have e5 : (kd == 5) = false := by simp; omega
  have e6 : (kd == 6) = false := by simp; omega
  have e7 : (kd == 7) = false := by simp; omega
  have e8 : (kd == 8) = false := by simp; omega
  have e9 : (kd == 9) = false := by simp; omega
  have e10 : (kd == 10) = false := by simp; omega
  clear kP kO k0
  go_enter Try.func44, Try.ntmps44
  go_wp2_with fail
  go_ret
  exact ⟨zt (by rw [HB.out]), b0⟩
 have hk' : kd = 1 ∨ kd = 2 ∨ kd = 3 ∨ kd = 4 ∨ kd = 5 ∨ kd = 6 ∨ kd = 7 ∨ kd = 8 ∨ kd = 9 ∨ kd = 10 := by omega
 clear hk
 rcases hk' with rfl | rfl | rfl | rfl | rfl | rfl | rfl | rfl | rfl | rfl
 -- kind 1
 ·by_cases h : on = 0
  ·subst h
   have HB : Hid (zF p ⟨1, 0, ar⟩ = zbR ar) := xH1 (zbC (by show (1 : Int) ≤ 1 ∧ (1 : Int) ≤ 10; decide) (by show (0 : Int) ≤ 0 ∧ (0 : Int) < ((1 : Nat) : Int); decide))
   clear kP kO k0
   go_enter Try.func44, Try.ntmps44
   go_wp2_with fail
   refine (zcZ ar _).mono ?_
   rintro e w1 ⟨rfl, rfl⟩
   go_wp2
   go_ret
   exact ⟨zt (by rw [HB.out]), b0⟩
  ·have HB : Hid (zF p ⟨1, on, ar⟩ = false) := xH1 (za8 (by show ¬ (0 ≤ on ∧ on < ((1 : Nat) : Int)); omega))
   have e0 : (on == 0) = false := by simpa using h
   clear kP kO k0
   go_enter Try.func44, Try.ntmps44
   go_wp2_with fail
   go_ret
   exact ⟨zt (by rw [HB.out]), b0⟩
 -- kind 2
 ·by_cases h : 0 ≤ on ∧ on < v.ns
  ·have HC : Hid ((decide (0 ≤ on) && decide (on < v.ns)) = true) := xH1 (by rw [decide_eq_true h.1, decide_eq_true h.2]; rfl)
   have HO : Hid (zF p ⟨2, on, ar⟩ = zaS p ⟨2, on, ar⟩) := xH1 (zbC (by show (1 : Int) ≤ 2 ∧ (2 : Int) ≤ 10; decide) (by show 0 ≤ on ∧ on < (zv p 2 : Int); rw [show zv p 2 = v.ns from ls.out]; exact h))
   obtain ⟨W0, hW0⟩ : ∃ W0 : World, W0 = ((w.alloc (.cells #[.slice v.s v.ns v.cs, .slice v.g v.ng v.cg, .slice v.b v.nb v.cb, .slice v.r v.nr v.cr, .slice v.t v.nt v.ct] 26)).alloc (.cells #[.int .i64 2, .int .i64 on, .int .i64 ar] 44)) := ⟨_, rfl⟩
   rw [← hW0] at kP kO b0 k0
   have HW0 := xH1 hW0
   clear hW0
   have c1 : W0.cell? ⟨w.heap.size, 0, none⟩ = some (.slice v.s v.ns v.cs) := kP.cell 0 rfl
   have c6 : W0.cell? ⟨w.heap.size + 1, 0, none⟩ = some (.int .i64 2) := kO.cell 0 rfl
   have c8 : W0.cell? ⟨w.heap.size + 1, 2, none⟩ = some (.int .i64 ar) := kO.cell 2 rfl
   have k1 := cell_regrown c1
   have k6 := cell_regrown c6
   have k7 := cell_regrown k0
   have k8 := cell_regrown c8
   clear kP kO
   have cF : Hid (∀ d os, Calls Try.prog 73 #[.slice v.s v.ns v.cs, .pointer (some ⟨w.heap.size + 1, 0, none⟩)] (grow (redrawn W0 d) os) fun e w'' => e = .returned (.bool true) ∧ ∃ p : Regrown, w'' = grow (redrawn W0 p.d) p.os) := xH1 (fun d os => zdy (by
    have := zaU v.s v.ns v.cs on (w.heap.size + 1) (grow (redrawn W0 d) os) zs (k7 d os); rw [HC.out] at this; exact this))
   obtain ⟨b, q, hsa, hc⟩ := hr.rs.int (by rw [hr.ls]; omega)
   have hcell := hc on.toNat (by rw [hr.ls]; omega)
   obtain ⟨x, hx⟩ : ∃ x, x = p.sems.getD on.toNat 0 := ⟨_, rfl⟩
   rw [← hx] at hcell
   have HA : Hid (zaS p ⟨2, on, ar⟩ = (decide (1 ≤ ar) && decide (ar ≤ x))) := xH1 (by rw [hx]; rfl)
   obtain ⟨on0, on1⟩ := h
   have k9 := cell_regrown (zd b0 hcell)
   rw [hsa] at k1 cF HW0
   clear k0 hc hx hr ls lg lb lr hcell
   by_cases h1 : 1 ≤ ar
   ·have d1 : decide (1 ≤ ar) = true := decide_eq_true h1
    go_enter Try.func44, Try.ntmps44
    go_wp2_with fail
    rw [← HW0.out]
    refine wp_region_quiet_below (by kernel_rfl) (by kernel_rfl) ?_
    repeat (go_big_quiet_step (exact cF.out _ _))
    refine wpQuiet_nil ?_
    intro w6 hw6
    have hbq : Below W0.heap.size W0 w6 := by
     obtain ⟨pq, rfl⟩ := hw6
     exact below_regrown _ _ _
    clear hw6
    go_wp2
    go_ret
    exact ⟨zt (by rw [HO.out, HA.out, d1]; rfl), b0.trans (hbq.mono b0.size)⟩
   ·have d1 : decide (1 ≤ ar) = false := decide_eq_false h1
    go_enter Try.func44, Try.ntmps44
    go_wp2_with fail
    rw [← HW0.out]
    refine wp_region_quiet_below (by kernel_rfl) (by kernel_rfl) ?_
    repeat (go_big_quiet_step (exact cF.out _ _))
    refine wpQuiet_nil ?_
    intro w6 hw6
    have hbq : Below W0.heap.size W0 w6 := by
     obtain ⟨pq, rfl⟩ := hw6
     exact below_regrown _ _ _
    clear hw6
    go_wp2
    go_ret
    exact ⟨zt (by rw [HO.out, HA.out, d1]; rfl), b0.trans (hbq.mono b0.size)⟩
  ·have HC : Hid ((decide (0 ≤ on) && decide (on < v.ns)) = false) := xH1 (by rw [← Bool.decide_and]; exact decide_eq_false h)
   have HB : Hid (zF p ⟨2, on, ar⟩ = false) := xH1 (za8 (by show ¬ (0 ≤ on ∧ on < (zv p 2 : Int)); rw [show zv p 2 = v.ns from ls.out]; exact h))
   obtain ⟨W0, hW0⟩ : ∃ W0 : World, W0 = ((w.alloc (.cells #[.slice v.s v.ns v.cs, .slice v.g v.ng v.cg, .slice v.b v.nb v.cb, .slice v.r v.nr v.cr, .slice v.t v.nt v.ct] 26)).alloc (.cells #[.int .i64 2, .int .i64 on, .int .i64 ar] 44)) := ⟨_, rfl⟩
   rw [← hW0] at kP kO b0 k0
   have HW0 := xH1 hW0
   clear hW0
   have c1 : W0.cell? ⟨w.heap.size, 0, none⟩ = some (.slice v.s v.ns v.cs) := kP.cell 0 rfl
   have c6 : W0.cell? ⟨w.heap.size + 1, 0, none⟩ = some (.int .i64 2) := kO.cell 0 rfl
   have c8 : W0.cell? ⟨w.heap.size + 1, 2, none⟩ = some (.int .i64 ar) := kO.cell 2 rfl
   have k1 := cell_regrown c1
   have k6 := cell_regrown c6
   have k7 := cell_regrown k0
   have k8 := cell_regrown c8
   clear kP kO
   have cF : Hid (∀ d os, Calls Try.prog 73 #[.slice v.s v.ns v.cs, .pointer (some ⟨w.heap.size + 1, 0, none⟩)] (grow (redrawn W0 d) os) fun e w'' => e = .returned (.bool false) ∧ ∃ p : Regrown, w'' = grow (redrawn W0 p.d) p.os) := xH1 (fun d os => zdy (by
    have := zaU v.s v.ns v.cs on (w.heap.size + 1) (grow (redrawn W0 d) os) zs (k7 d os); rw [HC.out] at this; exact this))
   clear k0
   go_enter Try.func44, Try.ntmps44
   go_wp2_with fail
   rw [← HW0.out]
   refine wp_region_quiet_below (by kernel_rfl) (by kernel_rfl) ?_
   repeat (go_big_quiet_step (exact cF.out _ _))
   refine wpQuiet_nil ?_
   intro w6 hw6
   have hbq : Below W0.heap.size W0 w6 := by
    obtain ⟨pq, rfl⟩ := hw6
    exact below_regrown _ _ _
   clear hw6
   go_wp2
   go_ret
   exact ⟨zt (by rw [HB.out]), b0.trans (hbq.mono b0.size)⟩
 -- kind 3
 ·by_cases h : 0 ≤ on ∧ on < v.ns
  ·have HC : Hid ((decide (0 ≤ on) && decide (on < v.ns)) = true) := xH1 (by rw [decide_eq_true h.1, decide_eq_true h.2]; rfl)
   have HO : Hid (zF p ⟨3, on, ar⟩ = zaS p ⟨3, on, ar⟩) := xH1 (zbC (by show (1 : Int) ≤ 3 ∧ (3 : Int) ≤ 10; decide) (by show 0 ≤ on ∧ on < (zv p 3 : Int); rw [show zv p 3 = v.ns from ls.out]; exact h))
   obtain ⟨W0, hW0⟩ : ∃ W0 : World, W0 = ((w.alloc (.cells #[.slice v.s v.ns v.cs, .slice v.g v.ng v.cg, .slice v.b v.nb v.cb, .slice v.r v.nr v.cr, .slice v.t v.nt v.ct] 26)).alloc (.cells #[.int .i64 3, .int .i64 on, .int .i64 ar] 44)) := ⟨_, rfl⟩
   rw [← hW0] at kP kO b0 k0
   have HW0 := xH1 hW0
   clear hW0
   have c1 : W0.cell? ⟨w.heap.size, 0, none⟩ = some (.slice v.s v.ns v.cs) := kP.cell 0 rfl
   have c6 : W0.cell? ⟨w.heap.size + 1, 0, none⟩ = some (.int .i64 3) := kO.cell 0 rfl
   have c8 : W0.cell? ⟨w.heap.size + 1, 2, none⟩ = some (.int .i64 ar) := kO.cell 2 rfl
   have k1 := cell_regrown c1
   have k6 := cell_regrown c6
   have k7 := cell_regrown k0
   have k8 := cell_regrown c8
   clear kP kO
   have cF : Hid (∀ d os, Calls Try.prog 73 #[.slice v.s v.ns v.cs, .pointer (some ⟨w.heap.size + 1, 0, none⟩)] (grow (redrawn W0 d) os) fun e w'' => e = .returned (.bool true) ∧ ∃ p : Regrown, w'' = grow (redrawn W0 p.d) p.os) := xH1 (fun d os => zdy (by
    have := zaU v.s v.ns v.cs on (w.heap.size + 1) (grow (redrawn W0 d) os) zs (k7 d os); rw [HC.out] at this; exact this))
   obtain ⟨b, q, hsa, hc⟩ := hr.rs.int (by rw [hr.ls]; omega)
   have hcell := hc on.toNat (by rw [hr.ls]; omega)
   obtain ⟨x, hx⟩ : ∃ x, x = p.sems.getD on.toNat 0 := ⟨_, rfl⟩
   rw [← hx] at hcell
   have HA : Hid (zaS p ⟨3, on, ar⟩ = (decide (1 ≤ ar) && decide (ar ≤ x))) := xH1 (by rw [hx]; rfl)
   obtain ⟨on0, on1⟩ := h
   have k9 := cell_regrown (zd b0 hcell)
   rw [hsa] at k1 cF HW0
   clear k0 hc hx hr ls lg lb lr hcell
   by_cases h1 : 1 ≤ ar
   ·have d1 : decide (1 ≤ ar) = true := decide_eq_true h1
    go_enter Try.func44, Try.ntmps44
    go_wp2_with fail
    rw [← HW0.out]
    refine wp_region_quiet_below (by kernel_rfl) (by kernel_rfl) ?_
    repeat (go_big_quiet_step (exact cF.out _ _))
    refine wpQuiet_nil ?_
    intro w6 hw6
    have hbq : Below W0.heap.size W0 w6 := by
     obtain ⟨pq, rfl⟩ := hw6
     exact below_regrown _ _ _
    clear hw6
    go_wp2
    go_ret
    exact ⟨zt (by rw [HO.out, HA.out, d1]; rfl), b0.trans (hbq.mono b0.size)⟩
   ·have d1 : decide (1 ≤ ar) = false := decide_eq_false h1
    go_enter Try.func44, Try.ntmps44
    go_wp2_with fail
    rw [← HW0.out]
    refine wp_region_quiet_below (by kernel_rfl) (by kernel_rfl) ?_
    repeat (go_big_quiet_step (exact cF.out _ _))
    refine wpQuiet_nil ?_
    intro w6 hw6
    have hbq : Below W0.heap.size W0 w6 := by
     obtain ⟨pq, rfl⟩ := hw6
     exact below_regrown _ _ _
    clear hw6
    go_wp2
    go_ret
    exact ⟨zt (by rw [HO.out, HA.out, d1]; rfl), b0.trans (hbq.mono b0.size)⟩
  ·have HC : Hid ((decide (0 ≤ on) && decide (on < v.ns)) = false) := xH1 (by rw [← Bool.decide_and]; exact decide_eq_false h)
   have HB : Hid (zF p ⟨3, on, ar⟩ = false) := xH1 (za8 (by show ¬ (0 ≤ on ∧ on < (zv p 3 : Int)); rw [show zv p 3 = v.ns from ls.out]; exact h))
   obtain ⟨W0, hW0⟩ : ∃ W0 : World, W0 = ((w.alloc (.cells #[.slice v.s v.ns v.cs, .slice v.g v.ng v.cg, .slice v.b v.nb v.cb, .slice v.r v.nr v.cr, .slice v.t v.nt v.ct] 26)).alloc (.cells #[.int .i64 3, .int .i64 on, .int .i64 ar] 44)) := ⟨_, rfl⟩
   rw [← hW0] at kP kO b0 k0
   have HW0 := xH1 hW0
   clear hW0
   have c1 : W0.cell? ⟨w.heap.size, 0, none⟩ = some (.slice v.s v.ns v.cs) := kP.cell 0 rfl
   have c6 : W0.cell? ⟨w.heap.size + 1, 0, none⟩ = some (.int .i64 3) := kO.cell 0 rfl
   have c8 : W0.cell? ⟨w.heap.size + 1, 2, none⟩ = some (.int .i64 ar) := kO.cell 2 rfl
   have k1 := cell_regrown c1
   have k6 := cell_regrown c6
   have k7 := cell_regrown k0
   have k8 := cell_regrown c8
   clear kP kO
   have cF : Hid (∀ d os, Calls Try.prog 73 #[.slice v.s v.ns v.cs, .pointer (some ⟨w.heap.size + 1, 0, none⟩)] (grow (redrawn W0 d) os) fun e w'' => e = .returned (.bool false) ∧ ∃ p : Regrown, w'' = grow (redrawn W0 p.d) p.os) := xH1 (fun d os => zdy (by
    have := zaU v.s v.ns v.cs on (w.heap.size + 1) (grow (redrawn W0 d) os) zs (k7 d os); rw [HC.out] at this; exact this))
   clear k0
   go_enter Try.func44, Try.ntmps44
   go_wp2_with fail
   rw [← HW0.out]
   refine wp_region_quiet_below (by kernel_rfl) (by kernel_rfl) ?_
   repeat (go_big_quiet_step (exact cF.out _ _))
   refine wpQuiet_nil ?_
   intro w6 hw6
   have hbq : Below W0.heap.size W0 w6 := by
    obtain ⟨pq, rfl⟩ := hw6
    exact below_regrown _ _ _
   clear hw6
   go_wp2
   go_ret
   exact ⟨zt (by rw [HB.out]), b0.trans (hbq.mono b0.size)⟩
 -- kind 4
 ·by_cases h1 : 0 ≤ on
  ·have d1 : decide (0 ≤ on) = true := decide_eq_true h1
   by_cases h2 : on ≤ 2
   ·have d2 : decide (on ≤ 2) = true := decide_eq_true h2
    have HB : Hid (zF p ⟨4, on, ar⟩ = zbR ar) := xH1 (zbC (by show (1 : Int) ≤ 4 ∧ (4 : Int) ≤ 10; decide) (by show 0 ≤ on ∧ on < ((3 : Nat) : Int); omega))
    clear kP kO k0
    go_enter Try.func44, Try.ntmps44
    go_wp2_with fail
    refine (zcZ ar _).mono ?_
    rintro e w1 ⟨rfl, rfl⟩
    go_wp2
    go_ret
    exact ⟨zt (by rw [HB.out]), b0⟩
   ·have d2 : decide (on ≤ 2) = false := decide_eq_false h2
    have HB : Hid (zF p ⟨4, on, ar⟩ = false) := xH1 (za8 (by show ¬ (0 ≤ on ∧ on < ((3 : Nat) : Int)); omega))
    clear kP kO k0
    go_enter Try.func44, Try.ntmps44
    go_wp2_with fail
    go_ret
    exact ⟨zt (by rw [HB.out]), b0⟩
  ·have d1 : decide (0 ≤ on) = false := decide_eq_false h1
   have HB : Hid (zF p ⟨4, on, ar⟩ = false) := xH1 (za8 (by show ¬ (0 ≤ on ∧ on < ((3 : Nat) : Int)); omega))
   clear kP kO k0
   go_enter Try.func44, Try.ntmps44
   go_wp2_with fail
   go_ret
   exact ⟨zt (by rw [HB.out]), b0⟩
 -- kind 5
 ·by_cases h : 0 ≤ on ∧ on < v.ng
  ·have HC : Hid ((decide (0 ≤ on) && decide (on < v.ng)) = true) := xH1 (by rw [decide_eq_true h.1, decide_eq_true h.2]; rfl)
   have HO : Hid (zF p ⟨5, on, ar⟩ = zaS p ⟨5, on, ar⟩) := xH1 (zbC (by show (1 : Int) ≤ 5 ∧ (5 : Int) ≤ 10; decide) (by show 0 ≤ on ∧ on < (zv p 5 : Int); rw [show zv p 5 = v.ng from lg.out]; exact h))
   clear kP kO h
   by_cases h9 : -9 ≤ ar
   ·have d9 : decide (-9 ≤ ar) = true := decide_eq_true h9
    have HB : Hid (zaS p ⟨5, on, ar⟩ = decide (ar ≤ 9)) := xH1 (by show (decide (-9 ≤ ar) && decide (ar ≤ 9)) = _; rw [d9]; rfl)
    go_enter Try.func44, Try.ntmps44
    go_wp2_with fail
    refine (zaU v.g v.ng v.cg on _ _ zg k0).mono ?_
    rintro e w1 ⟨rfl, rfl⟩
    rw [HC.out]
    go_wp2
    go_ret
    exact ⟨zt (by rw [HO.out, HB.out]), b0⟩
   ·have d9 : decide (-9 ≤ ar) = false := decide_eq_false h9
    have HB : Hid (zaS p ⟨5, on, ar⟩ = false) := xH1 (by show (decide (-9 ≤ ar) && decide (ar ≤ 9)) = _; rw [d9]; rfl)
    go_enter Try.func44, Try.ntmps44
    go_wp2_with fail
    refine (zaU v.g v.ng v.cg on _ _ zg k0).mono ?_
    rintro e w1 ⟨rfl, rfl⟩
    rw [HC.out]
    go_wp2
    go_ret
    exact ⟨zt (by rw [HO.out, HB.out]), b0⟩
  ·have HC : Hid ((decide (0 ≤ on) && decide (on < v.ng)) = false) := xH1 (by rw [← Bool.decide_and]; exact decide_eq_false h)
   have HB : Hid (zF p ⟨5, on, ar⟩ = false) := xH1 (za8 (by show ¬ (0 ≤ on ∧ on < (zv p 5 : Int)); rw [show zv p 5 = v.ng from lg.out]; exact h))
   clear kP kO h
   go_enter Try.func44, Try.ntmps44
   go_wp2_with fail
   refine (zaU v.g v.ng v.cg on _ _ zg k0).mono ?_
   rintro e w1 ⟨rfl, rfl⟩
   rw [HC.out]
   go_wp2
   go_ret
   exact ⟨zt (by rw [HB.out]), b0⟩
 -- kind 6
 ·by_cases h : 0 ≤ on ∧ on < v.ng
  ·have HC : Hid ((decide (0 ≤ on) && decide (on < v.ng)) = true) := xH1 (by rw [decide_eq_true h.1, decide_eq_true h.2]; rfl)
   have HO : Hid (zF p ⟨6, on, ar⟩ = zaS p ⟨6, on, ar⟩) := xH1 (zbC (by show (1 : Int) ≤ 6 ∧ (6 : Int) ≤ 10; decide) (by show 0 ≤ on ∧ on < (zv p 6 : Int); rw [show zv p 6 = v.ng from lg.out]; exact h))
   clear kP kO h
   go_enter Try.func44, Try.ntmps44
   go_wp2_with fail
   refine (zaU v.g v.ng v.cg on _ _ zg k0).mono ?_
   rintro e w1 ⟨rfl, rfl⟩
   rw [HC.out]
   go_wp2
   go_ret
   exact ⟨zt (by rw [HO.out]; rfl), b0⟩
  ·have HC : Hid ((decide (0 ≤ on) && decide (on < v.ng)) = false) := xH1 (by rw [← Bool.decide_and]; exact decide_eq_false h)
   have HB : Hid (zF p ⟨6, on, ar⟩ = false) := xH1 (za8 (by show ¬ (0 ≤ on ∧ on < (zv p 6 : Int)); rw [show zv p 6 = v.ng from lg.out]; exact h))
   clear kP kO h
   go_enter Try.func44, Try.ntmps44
   go_wp2_with fail
   refine (zaU v.g v.ng v.cg on _ _ zg k0).mono ?_
   rintro e w1 ⟨rfl, rfl⟩
   rw [HC.out]
   go_wp2
   go_ret
   exact ⟨zt (by rw [HB.out]), b0⟩
 -- kind 7
 ·by_cases h : 0 ≤ on ∧ on < v.nb
  ·have HC : Hid ((decide (0 ≤ on) && decide (on < v.nb)) = true) := xH1 (by rw [decide_eq_true h.1, decide_eq_true h.2]; rfl)
   have HO : Hid (zF p ⟨7, on, ar⟩ = zaS p ⟨7, on, ar⟩) := xH1 (zbC (by show (1 : Int) ≤ 7 ∧ (7 : Int) ≤ 10; decide) (by show 0 ≤ on ∧ on < (zv p 7 : Int); rw [show zv p 7 = v.nb from lb.out]; exact h))
   clear kP kO h
   go_enter Try.func44, Try.ntmps44
   go_wp2_with fail
   refine (zaU v.b v.nb v.cb on _ _ zb k0).mono ?_
   rintro e w1 ⟨rfl, rfl⟩
   rw [HC.out]
   go_wp2
   go_ret
   exact ⟨zt (by rw [HO.out]; rfl), b0⟩
  ·have HC : Hid ((decide (0 ≤ on) && decide (on < v.nb)) = false) := xH1 (by rw [← Bool.decide_and]; exact decide_eq_false h)
   have HB : Hid (zF p ⟨7, on, ar⟩ = false) := xH1 (za8 (by show ¬ (0 ≤ on ∧ on < (zv p 7 : Int)); rw [show zv p 7 = v.nb from lb.out]; exact h))
   clear kP kO h
   go_enter Try.func44, Try.ntmps44
   go_wp2_with fail
   refine (zaU v.b v.nb v.cb on _ _ zb k0).mono ?_
   rintro e w1 ⟨rfl, rfl⟩
   rw [HC.out]
   go_wp2
   go_ret
   exact ⟨zt (by rw [HB.out]), b0⟩
 -- kind 8
 ·by_cases h : 0 ≤ on ∧ on < v.nr
  ·have HC : Hid ((decide (0 ≤ on) && decide (on < v.nr)) = true) := xH1 (by rw [decide_eq_true h.1, decide_eq_true h.2]; rfl)
   have HO : Hid (zF p ⟨8, on, ar⟩ = zaS p ⟨8, on, ar⟩) := xH1 (zbC (by show (1 : Int) ≤ 8 ∧ (8 : Int) ≤ 10; decide) (by show 0 ≤ on ∧ on < (zv p 8 : Int); rw [show zv p 8 = v.nr from lr.out]; exact h))
   clear kP kO h
   go_enter Try.func44, Try.ntmps44
   go_wp2_with fail
   refine (zaU v.r v.nr v.cr on _ _ zr k0).mono ?_
   rintro e w1 ⟨rfl, rfl⟩
   rw [HC.out]
   go_wp2_with fail
   refine (zcZ ar _).mono ?_
   rintro e w1 ⟨rfl, rfl⟩
   go_wp2
   go_ret
   exact ⟨zt (by rw [HO.out]; rfl), b0⟩
  ·have HC : Hid ((decide (0 ≤ on) && decide (on < v.nr)) = false) := xH1 (by rw [← Bool.decide_and]; exact decide_eq_false h)
   have HB : Hid (zF p ⟨8, on, ar⟩ = false) := xH1 (za8 (by show ¬ (0 ≤ on ∧ on < (zv p 8 : Int)); rw [show zv p 8 = v.nr from lr.out]; exact h))
   clear kP kO h
   go_enter Try.func44, Try.ntmps44
   go_wp2_with fail
   refine (zaU v.r v.nr v.cr on _ _ zr k0).mono ?_
   rintro e w1 ⟨rfl, rfl⟩
   rw [HC.out]
   go_wp2
   go_ret
   exact ⟨zt (by rw [HB.out]), b0⟩
 -- kind 9
 ·by_cases h : 0 ≤ on ∧ on < v.nr
  ·have HC : Hid ((decide (0 ≤ on) && decide (on < v.nr)) = true) := xH1 (by rw [decide_eq_true h.1, decide_eq_true h.2]; rfl)
   have HO : Hid (zF p ⟨9, on, ar⟩ = zaS p ⟨9, on, ar⟩) := xH1 (zbC (by show (1 : Int) ≤ 9 ∧ (9 : Int) ≤ 10; decide) (by show 0 ≤ on ∧ on < (zv p 9 : Int); rw [show zv p 9 = v.nr from lr.out]; exact h))
   clear kP kO h
   go_enter Try.func44, Try.ntmps44
   go_wp2_with fail
   refine (zaU v.r v.nr v.cr on _ _ zr k0).mono ?_
   rintro e w1 ⟨rfl, rfl⟩
   rw [HC.out]
   go_wp2
   go_ret
   exact ⟨zt (by rw [HO.out]; rfl), b0⟩
  ·have HC : Hid ((decide (0 ≤ on) && decide (on < v.nr)) = false) := xH1 (by rw [← Bool.decide_and]; exact decide_eq_false h)
   have HB : Hid (zF p ⟨9, on, ar⟩ = false) := xH1 (za8 (by show ¬ (0 ≤ on ∧ on < (zv p 9 : Int)); rw [show zv p 9 = v.nr from lr.out]; exact h))
   clear kP kO h
   go_enter Try.func44, Try.ntmps44
   go_wp2_with fail
   refine (zaU v.r v.nr v.cr on _ _ zr k0).mono ?_
   rintro e w1 ⟨rfl, rfl⟩
   rw [HC.out]
   go_wp2
   go_ret
   exact ⟨zt (by rw [HB.out]), b0⟩
 -- kind 10
 ·by_cases h : 0 ≤ on ∧ on < v.nr
  ·have HC : Hid ((decide (0 ≤ on) && decide (on < v.nr)) = true) := xH1 (by rw [decide_eq_true h.1, decide_eq_true h.2]; rfl)
   have HO : Hid (zF p ⟨10, on, ar⟩ = zaS p ⟨10, on, ar⟩) := xH1 (zbC (by show (1 : Int) ≤ 10 ∧ (10 : Int) ≤ 10; decide) (by show 0 ≤ on ∧ on < (zv p 10 : Int); rw [show zv p 10 = v.nr from lr.out]; exact h))
   clear kP kO h
   go_enter Try.func44, Try.ntmps44
   go_wp2_with fail
   refine (zaU v.r v.nr v.cr on _ _ zr k0).mono ?_
   rintro e w1 ⟨rfl, rfl⟩
   rw [HC.out]
   go_wp2
   go_ret
   exact ⟨zt (by rw [HO.out]; rfl), b0⟩
  ·have HC : Hid ((decide (0 ≤ on) && decide (on < v.nr)) = false) := xH1 (by rw [← Bool.decide_and]; exact decide_eq_false h)
   have HB : Hid (zF p ⟨10, on, ar⟩ = false) := xH1 (za8 (by show ¬ (0 ≤ on ∧ on < (zv p 10 : Int)); rw [show zv p 10 = v.nr from lr.out]; exact h))
   clear kP kO h
   go_enter Try.func44, Try.ntmps44
   go_wp2_with fail
   refine (zaU v.r v.nr v.cr on _ _ zr k0).mono ?_
   rintro e w1 ⟨rfl, rfl⟩
   rw [HC.out]
   go_wp2
   go_ret
   exact ⟨zt (by rw [HB.out]), b0⟩
end Go.Proofs.Ytppoohbkkdgljaa
namespace Go.Proofs.Ytppoohbkkdgljaa
open Go.RowKit
theorem zbk (v : PV) (p : Pg) (w : World) (hr : RdP w v p) (hz : zbb v p) :
  Calls Try.prog 27 #[.agg #[.slice v.s v.ns v.cs, .slice v.g v.ng v.cg, .slice v.b v.nb v.cb, .slice v.r v.nr v.cr, .slice v.t v.nt v.ct]] w fun e w' => e = .returned (.bool (zq p)) ∧ Below w.heap.size w w' := by
 have hs : v.ns ≤ maxLen ∧ v.ng ≤ maxLen ∧ v.nb ≤ maxLen ∧ v.nr ≤ maxLen := by
  obtain ⟨z1, z2, z3, z4, z5, z6⟩ := hz; unfold maxLen; omega
 have zz : Hid (v.ns ≤ maxLen ∧ v.ng ≤ maxLen ∧ v.nb ≤ maxLen ∧ v.nr ≤ maxLen) := xH1 hs
 have z5 : v.nt ≤ 1048576 := hz.lt
 have Z6 := xH1 hz.inn
 have ls := xH1 hr.ls
 have lg := xH1 hr.lg
 have lb := xH1 hr.lb
 have lr := xH1 hr.lr
 have lt := xH1 hr.lt
 clear hz
 have B0 : Below w.heap.size w (w.alloc (.cells #[.slice v.s v.ns v.cs, .slice v.g v.ng v.cg, .slice v.b v.nb v.cb, .slice v.r v.nr v.cr, .slice v.t v.nt v.ct] 26)) := xA1
 have k0 : Blk (w.alloc (.cells #[.slice v.s v.ns v.cs, .slice v.g v.ng v.cg, .slice v.b v.nb v.cb, .slice v.r v.nr v.cr, .slice v.t v.nt v.ct] 26)) w.heap.size #[.slice v.s v.ns v.cs, .slice v.g v.ng v.cg, .slice v.b v.nb v.cb, .slice v.r v.nr v.cr, .slice v.t v.nt v.ct] 26 := Blk.new _ _ _
 rcases Bool.eq_false_or_eq_true (zae p.sems 1 9) with h1 | h1
 rotate_left
 ·have HB : Hid (zq p = false) := xH1 (by unfold zq; rw [h1]; simp)
  replace h1 := xH1 h1
  go_enter Try.func27, Try.ntmps27
  go_wp2_with fail
  refine (zR v.s v.ns v.cs p.sems 1 9 _ ls.out (by have := zz.out; omega) (hr.rs.below B0)).mono ?_
  rintro e w1 ⟨rfl, hb⟩
  rw [h1.out]
  have B1 := B0.trans (hb.mono B0.size)
  have k1 := k0.below hb
  clear hb
  have q0 : w1.cell? ⟨w.heap.size, 0, none⟩ = some (.slice v.s v.ns v.cs) := k1.cell 0 rfl
  have q1 : w1.cell? ⟨w.heap.size, 1, none⟩ = some (.slice v.g v.ng v.cg) := k1.cell 1 rfl
  have q2 : w1.cell? ⟨w.heap.size, 2, none⟩ = some (.slice v.b v.nb v.cb) := k1.cell 2 rfl
  have q3 : w1.cell? ⟨w.heap.size, 3, none⟩ = some (.slice v.r v.nr v.cr) := k1.cell 3 rfl
  have q4 : w1.cell? ⟨w.heap.size, 4, none⟩ = some (.slice v.t v.nt v.ct) := k1.cell 4 rfl
  go_wp2
  go_ret
  exact ⟨zt (by rw [HB.out]), B1⟩
 replace h1 := xH1 h1
 rcases Bool.eq_false_or_eq_true (zae p.groups 0 9) with h2 | h2
 rotate_left
 ·have HB : Hid (zq p = false) := xH1 (by unfold zq; rw [h2]; simp)
  replace h2 := xH1 h2
  go_enter Try.func27, Try.ntmps27
  go_wp2_with fail
  refine (zR v.s v.ns v.cs p.sems 1 9 _ ls.out (by have := zz.out; omega) (hr.rs.below B0)).mono ?_
  rintro e w1 ⟨rfl, hb⟩
  rw [h1.out]
  have B1 := B0.trans (hb.mono B0.size)
  have k1 := k0.below hb
  clear hb
  have q0 : w1.cell? ⟨w.heap.size, 0, none⟩ = some (.slice v.s v.ns v.cs) := k1.cell 0 rfl
  have q1 : w1.cell? ⟨w.heap.size, 1, none⟩ = some (.slice v.g v.ng v.cg) := k1.cell 1 rfl
  have q2 : w1.cell? ⟨w.heap.size, 2, none⟩ = some (.slice v.b v.nb v.cb) := k1.cell 2 rfl
  have q3 : w1.cell? ⟨w.heap.size, 3, none⟩ = some (.slice v.r v.nr v.cr) := k1.cell 3 rfl
  have q4 : w1.cell? ⟨w.heap.size, 4, none⟩ = some (.slice v.t v.nt v.ct) := k1.cell 4 rfl
  go_wp2_with fail
  refine (zR v.g v.ng v.cg p.groups 0 9 _ lg.out (by have := zz.out; omega) (hr.rg.below B1)).mono ?_
  rintro e w2 ⟨rfl, hb⟩
  rw [h2.out]
  have B2 := B1.trans (hb.mono B1.size)
  have k2 := k1.below hb
  clear hb
  replace q0 : w2.cell? ⟨w.heap.size, 0, none⟩ = some (.slice v.s v.ns v.cs) := k2.cell 0 rfl
  replace q1 : w2.cell? ⟨w.heap.size, 1, none⟩ = some (.slice v.g v.ng v.cg) := k2.cell 1 rfl
  replace q2 : w2.cell? ⟨w.heap.size, 2, none⟩ = some (.slice v.b v.nb v.cb) := k2.cell 2 rfl
  replace q3 : w2.cell? ⟨w.heap.size, 3, none⟩ = some (.slice v.r v.nr v.cr) := k2.cell 3 rfl
  replace q4 : w2.cell? ⟨w.heap.size, 4, none⟩ = some (.slice v.t v.nt v.ct) := k2.cell 4 rfl
  go_wp2
  go_ret
  exact ⟨zt (by rw [HB.out]), B2⟩
 replace h2 := xH1 h2
 rcases Bool.eq_false_or_eq_true (zae p.barriers 1 6) with h3 | h3
 rotate_left
 ·have HB : Hid (zq p = false) := xH1 (by unfold zq; rw [h3]; simp)
  replace h3 := xH1 h3
  go_enter Try.func27, Try.ntmps27
  go_wp2_with fail
  refine (zR v.s v.ns v.cs p.sems 1 9 _ ls.out (by have := zz.out; omega) (hr.rs.below B0)).mono ?_
  rintro e w1 ⟨rfl, hb⟩
  rw [h1.out]
  have B1 := B0.trans (hb.mono B0.size)
  have k1 := k0.below hb
  clear hb
  have q0 : w1.cell? ⟨w.heap.size, 0, none⟩ = some (.slice v.s v.ns v.cs) := k1.cell 0 rfl
  have q1 : w1.cell? ⟨w.heap.size, 1, none⟩ = some (.slice v.g v.ng v.cg) := k1.cell 1 rfl
  have q2 : w1.cell? ⟨w.heap.size, 2, none⟩ = some (.slice v.b v.nb v.cb) := k1.cell 2 rfl
  have q3 : w1.cell? ⟨w.heap.size, 3, none⟩ = some (.slice v.r v.nr v.cr) := k1.cell 3 rfl
  have q4 : w1.cell? ⟨w.heap.size, 4, none⟩ = some (.slice v.t v.nt v.ct) := k1.cell 4 rfl
  go_wp2_with fail
  refine (zR v.g v.ng v.cg p.groups 0 9 _ lg.out (by have := zz.out; omega) (hr.rg.below B1)).mono ?_
  rintro e w2 ⟨rfl, hb⟩
  rw [h2.out]
  have B2 := B1.trans (hb.mono B1.size)
  have k2 := k1.below hb
  clear hb
  replace q0 : w2.cell? ⟨w.heap.size, 0, none⟩ = some (.slice v.s v.ns v.cs) := k2.cell 0 rfl
  replace q1 : w2.cell? ⟨w.heap.size, 1, none⟩ = some (.slice v.g v.ng v.cg) := k2.cell 1 rfl
  replace q2 : w2.cell? ⟨w.heap.size, 2, none⟩ = some (.slice v.b v.nb v.cb) := k2.cell 2 rfl
  replace q3 : w2.cell? ⟨w.heap.size, 3, none⟩ = some (.slice v.r v.nr v.cr) := k2.cell 3 rfl
  replace q4 : w2.cell? ⟨w.heap.size, 4, none⟩ = some (.slice v.t v.nt v.ct) := k2.cell 4 rfl
  go_wp2_with fail
  refine (zR v.b v.nb v.cb p.barriers 1 6 _ lb.out (by have := zz.out; omega) (hr.rb.below B2)).mono ?_
  rintro e w3 ⟨rfl, hb⟩
  rw [h3.out]
  have B3 := B2.trans (hb.mono B2.size)
  have k3 := k2.below hb
  clear hb
  replace q0 : w3.cell? ⟨w.heap.size, 0, none⟩ = some (.slice v.s v.ns v.cs) := k3.cell 0 rfl
  replace q1 : w3.cell? ⟨w.heap.size, 1, none⟩ = some (.slice v.g v.ng v.cg) := k3.cell 1 rfl
  replace q2 : w3.cell? ⟨w.heap.size, 2, none⟩ = some (.slice v.b v.nb v.cb) := k3.cell 2 rfl
  replace q3 : w3.cell? ⟨w.heap.size, 3, none⟩ = some (.slice v.r v.nr v.cr) := k3.cell 3 rfl
  replace q4 : w3.cell? ⟨w.heap.size, 4, none⟩ = some (.slice v.t v.nt v.ct) := k3.cell 4 rfl
  go_wp2
  go_ret
  exact ⟨zt (by rw [HB.out]), B3⟩
 replace h3 := xH1 h3
 rcases Bool.eq_false_or_eq_true (zae p.rooms 0 4) with h4 | h4
 rotate_left
 ·have HB : Hid (zq p = false) := xH1 (by unfold zq; rw [h4]; simp)
  replace h4 := xH1 h4
  go_enter Try.func27, Try.ntmps27
  go_wp2_with fail
  refine (zR v.s v.ns v.cs p.sems 1 9 _ ls.out (by have := zz.out; omega) (hr.rs.below B0)).mono ?_
  rintro e w1 ⟨rfl, hb⟩
  rw [h1.out]
  have B1 := B0.trans (hb.mono B0.size)
  have k1 := k0.below hb
  clear hb
  have q0 : w1.cell? ⟨w.heap.size, 0, none⟩ = some (.slice v.s v.ns v.cs) := k1.cell 0 rfl
  have q1 : w1.cell? ⟨w.heap.size, 1, none⟩ = some (.slice v.g v.ng v.cg) := k1.cell 1 rfl
  have q2 : w1.cell? ⟨w.heap.size, 2, none⟩ = some (.slice v.b v.nb v.cb) := k1.cell 2 rfl
  have q3 : w1.cell? ⟨w.heap.size, 3, none⟩ = some (.slice v.r v.nr v.cr) := k1.cell 3 rfl
  have q4 : w1.cell? ⟨w.heap.size, 4, none⟩ = some (.slice v.t v.nt v.ct) := k1.cell 4 rfl
  go_wp2_with fail
  refine (zR v.g v.ng v.cg p.groups 0 9 _ lg.out (by have := zz.out; omega) (hr.rg.below B1)).mono ?_
  rintro e w2 ⟨rfl, hb⟩
  rw [h2.out]
  have B2 := B1.trans (hb.mono B1.size)
  have k2 := k1.below hb
  clear hb
  replace q0 : w2.cell? ⟨w.heap.size, 0, none⟩ = some (.slice v.s v.ns v.cs) := k2.cell 0 rfl
  replace q1 : w2.cell? ⟨w.heap.size, 1, none⟩ = some (.slice v.g v.ng v.cg) := k2.cell 1 rfl
  replace q2 : w2.cell? ⟨w.heap.size, 2, none⟩ = some (.slice v.b v.nb v.cb) := k2.cell 2 rfl
  replace q3 : w2.cell? ⟨w.heap.size, 3, none⟩ = some (.slice v.r v.nr v.cr) := k2.cell 3 rfl
  replace q4 : w2.cell? ⟨w.heap.size, 4, none⟩ = some (.slice v.t v.nt v.ct) := k2.cell 4 rfl
  go_wp2_with fail
  refine (zR v.b v.nb v.cb p.barriers 1 6 _ lb.out (by have := zz.out; omega) (hr.rb.below B2)).mono ?_
  rintro e w3 ⟨rfl, hb⟩
  rw [h3.out]
  have B3 := B2.trans (hb.mono B2.size)
  have k3 := k2.below hb
  clear hb
  replace q0 : w3.cell? ⟨w.heap.size, 0, none⟩ = some (.slice v.s v.ns v.cs) := k3.cell 0 rfl
  replace q1 : w3.cell? ⟨w.heap.size, 1, none⟩ = some (.slice v.g v.ng v.cg) := k3.cell 1 rfl
  replace q2 : w3.cell? ⟨w.heap.size, 2, none⟩ = some (.slice v.b v.nb v.cb) := k3.cell 2 rfl
  replace q3 : w3.cell? ⟨w.heap.size, 3, none⟩ = some (.slice v.r v.nr v.cr) := k3.cell 3 rfl
  replace q4 : w3.cell? ⟨w.heap.size, 4, none⟩ = some (.slice v.t v.nt v.ct) := k3.cell 4 rfl
  go_wp2_with fail
  refine (zR v.r v.nr v.cr p.rooms 0 4 _ lr.out (by have := zz.out; omega) (hr.rr.below B3)).mono ?_
  rintro e w4 ⟨rfl, hb⟩
  rw [h4.out]
  have B4 := B3.trans (hb.mono B3.size)
  have k4 := k3.below hb
  clear hb
  replace q0 : w4.cell? ⟨w.heap.size, 0, none⟩ = some (.slice v.s v.ns v.cs) := k4.cell 0 rfl
  replace q1 : w4.cell? ⟨w.heap.size, 1, none⟩ = some (.slice v.g v.ng v.cg) := k4.cell 1 rfl
  replace q2 : w4.cell? ⟨w.heap.size, 2, none⟩ = some (.slice v.b v.nb v.cb) := k4.cell 2 rfl
  replace q3 : w4.cell? ⟨w.heap.size, 3, none⟩ = some (.slice v.r v.nr v.cr) := k4.cell 3 rfl
  replace q4 : w4.cell? ⟨w.heap.size, 4, none⟩ = some (.slice v.t v.nt v.ct) := k4.cell 4 rfl
  go_wp2
  go_ret
  exact ⟨zt (by rw [HB.out]), B4⟩
 replace h4 := xH1 h4
 by_cases h5 : v.nt < 1
 ·have HB : Hid (zq p = false) := xH1 (by
   have := lt.out
   unfold zq
   rw [show decide (1 ≤ p.threads.length) = false from decide_eq_false (by omega)]; simp)
  have t5 : decide ((v.nt : Int) < 1) = true := by simp; omega
  go_enter Try.func27, Try.ntmps27
  go_wp2_with fail
  refine (zR v.s v.ns v.cs p.sems 1 9 _ ls.out (by have := zz.out; omega) (hr.rs.below B0)).mono ?_
  rintro e w1 ⟨rfl, hb⟩
  rw [h1.out]
  have B1 := B0.trans (hb.mono B0.size)
  have k1 := k0.below hb
  clear hb
  have q0 : w1.cell? ⟨w.heap.size, 0, none⟩ = some (.slice v.s v.ns v.cs) := k1.cell 0 rfl
  have q1 : w1.cell? ⟨w.heap.size, 1, none⟩ = some (.slice v.g v.ng v.cg) := k1.cell 1 rfl
  have q2 : w1.cell? ⟨w.heap.size, 2, none⟩ = some (.slice v.b v.nb v.cb) := k1.cell 2 rfl
  have q3 : w1.cell? ⟨w.heap.size, 3, none⟩ = some (.slice v.r v.nr v.cr) := k1.cell 3 rfl
  have q4 : w1.cell? ⟨w.heap.size, 4, none⟩ = some (.slice v.t v.nt v.ct) := k1.cell 4 rfl
  go_wp2_with fail
  refine (zR v.g v.ng v.cg p.groups 0 9 _ lg.out (by have := zz.out; omega) (hr.rg.below B1)).mono ?_
  rintro e w2 ⟨rfl, hb⟩
  rw [h2.out]
  have B2 := B1.trans (hb.mono B1.size)
  have k2 := k1.below hb
  clear hb
  replace q0 : w2.cell? ⟨w.heap.size, 0, none⟩ = some (.slice v.s v.ns v.cs) := k2.cell 0 rfl
  replace q1 : w2.cell? ⟨w.heap.size, 1, none⟩ = some (.slice v.g v.ng v.cg) := k2.cell 1 rfl
  replace q2 : w2.cell? ⟨w.heap.size, 2, none⟩ = some (.slice v.b v.nb v.cb) := k2.cell 2 rfl
  replace q3 : w2.cell? ⟨w.heap.size, 3, none⟩ = some (.slice v.r v.nr v.cr) := k2.cell 3 rfl
  replace q4 : w2.cell? ⟨w.heap.size, 4, none⟩ = some (.slice v.t v.nt v.ct) := k2.cell 4 rfl
  go_wp2_with fail
  refine (zR v.b v.nb v.cb p.barriers 1 6 _ lb.out (by have := zz.out; omega) (hr.rb.below B2)).mono ?_
  rintro e w3 ⟨rfl, hb⟩
  rw [h3.out]
  have B3 := B2.trans (hb.mono B2.size)
  have k3 := k2.below hb
  clear hb
  replace q0 : w3.cell? ⟨w.heap.size, 0, none⟩ = some (.slice v.s v.ns v.cs) := k3.cell 0 rfl
  replace q1 : w3.cell? ⟨w.heap.size, 1, none⟩ = some (.slice v.g v.ng v.cg) := k3.cell 1 rfl
  replace q2 : w3.cell? ⟨w.heap.size, 2, none⟩ = some (.slice v.b v.nb v.cb) := k3.cell 2 rfl
  replace q3 : w3.cell? ⟨w.heap.size, 3, none⟩ = some (.slice v.r v.nr v.cr) := k3.cell 3 rfl
  replace q4 : w3.cell? ⟨w.heap.size, 4, none⟩ = some (.slice v.t v.nt v.ct) := k3.cell 4 rfl
  go_wp2_with fail
  refine (zR v.r v.nr v.cr p.rooms 0 4 _ lr.out (by have := zz.out; omega) (hr.rr.below B3)).mono ?_
  rintro e w4 ⟨rfl, hb⟩
  rw [h4.out]
  have B4 := B3.trans (hb.mono B3.size)
  have k4 := k3.below hb
  clear hb
  replace q0 : w4.cell? ⟨w.heap.size, 0, none⟩ = some (.slice v.s v.ns v.cs) := k4.cell 0 rfl
  replace q1 : w4.cell? ⟨w.heap.size, 1, none⟩ = some (.slice v.g v.ng v.cg) := k4.cell 1 rfl
  replace q2 : w4.cell? ⟨w.heap.size, 2, none⟩ = some (.slice v.b v.nb v.cb) := k4.cell 2 rfl
  replace q3 : w4.cell? ⟨w.heap.size, 3, none⟩ = some (.slice v.r v.nr v.cr) := k4.cell 3 rfl
  replace q4 : w4.cell? ⟨w.heap.size, 4, none⟩ = some (.slice v.t v.nt v.ct) := k4.cell 4 rfl
  go_wp2
  go_ret
  exact ⟨zt (by rw [HB.out]), B4⟩
 have t5 : decide ((v.nt : Int) < 1) = false := by simp; omega
 by_cases h6 : 4 < v.nt
 ·have HB : Hid (zq p = false) := xH1 (by
   have := lt.out
   unfold zq
   rw [show decide (p.threads.length ≤ 4) = false from decide_eq_false (by omega)]; simp)
  have t6 : decide ((4 : Int) < v.nt) = true := by simp; omega
  go_enter Try.func27, Try.ntmps27
  go_wp2_with fail
  refine (zR v.s v.ns v.cs p.sems 1 9 _ ls.out (by have := zz.out; omega) (hr.rs.below B0)).mono ?_
  rintro e w1 ⟨rfl, hb⟩
  rw [h1.out]
  have B1 := B0.trans (hb.mono B0.size)
  have k1 := k0.below hb
  clear hb
  have q0 : w1.cell? ⟨w.heap.size, 0, none⟩ = some (.slice v.s v.ns v.cs) := k1.cell 0 rfl
  have q1 : w1.cell? ⟨w.heap.size, 1, none⟩ = some (.slice v.g v.ng v.cg) := k1.cell 1 rfl
  have q2 : w1.cell? ⟨w.heap.size, 2, none⟩ = some (.slice v.b v.nb v.cb) := k1.cell 2 rfl
  have q3 : w1.cell? ⟨w.heap.size, 3, none⟩ = some (.slice v.r v.nr v.cr) := k1.cell 3 rfl
  have q4 : w1.cell? ⟨w.heap.size, 4, none⟩ = some (.slice v.t v.nt v.ct) := k1.cell 4 rfl
  go_wp2_with fail
  refine (zR v.g v.ng v.cg p.groups 0 9 _ lg.out (by have := zz.out; omega) (hr.rg.below B1)).mono ?_
  rintro e w2 ⟨rfl, hb⟩
  rw [h2.out]
  have B2 := B1.trans (hb.mono B1.size)
  have k2 := k1.below hb
  clear hb
  replace q0 : w2.cell? ⟨w.heap.size, 0, none⟩ = some (.slice v.s v.ns v.cs) := k2.cell 0 rfl
  replace q1 : w2.cell? ⟨w.heap.size, 1, none⟩ = some (.slice v.g v.ng v.cg) := k2.cell 1 rfl
  replace q2 : w2.cell? ⟨w.heap.size, 2, none⟩ = some (.slice v.b v.nb v.cb) := k2.cell 2 rfl
  replace q3 : w2.cell? ⟨w.heap.size, 3, none⟩ = some (.slice v.r v.nr v.cr) := k2.cell 3 rfl
  replace q4 : w2.cell? ⟨w.heap.size, 4, none⟩ = some (.slice v.t v.nt v.ct) := k2.cell 4 rfl
  go_wp2_with fail
  refine (zR v.b v.nb v.cb p.barriers 1 6 _ lb.out (by have := zz.out; omega) (hr.rb.below B2)).mono ?_
  rintro e w3 ⟨rfl, hb⟩
  rw [h3.out]
  have B3 := B2.trans (hb.mono B2.size)
  have k3 := k2.below hb
  clear hb
  replace q0 : w3.cell? ⟨w.heap.size, 0, none⟩ = some (.slice v.s v.ns v.cs) := k3.cell 0 rfl
  replace q1 : w3.cell? ⟨w.heap.size, 1, none⟩ = some (.slice v.g v.ng v.cg) := k3.cell 1 rfl
  replace q2 : w3.cell? ⟨w.heap.size, 2, none⟩ = some (.slice v.b v.nb v.cb) := k3.cell 2 rfl
  replace q3 : w3.cell? ⟨w.heap.size, 3, none⟩ = some (.slice v.r v.nr v.cr) := k3.cell 3 rfl
  replace q4 : w3.cell? ⟨w.heap.size, 4, none⟩ = some (.slice v.t v.nt v.ct) := k3.cell 4 rfl
  go_wp2_with fail
  refine (zR v.r v.nr v.cr p.rooms 0 4 _ lr.out (by have := zz.out; omega) (hr.rr.below B3)).mono ?_
  rintro e w4 ⟨rfl, hb⟩
  rw [h4.out]
  have B4 := B3.trans (hb.mono B3.size)
  have k4 := k3.below hb
  clear hb
  replace q0 : w4.cell? ⟨w.heap.size, 0, none⟩ = some (.slice v.s v.ns v.cs) := k4.cell 0 rfl
  replace q1 : w4.cell? ⟨w.heap.size, 1, none⟩ = some (.slice v.g v.ng v.cg) := k4.cell 1 rfl
  replace q2 : w4.cell? ⟨w.heap.size, 2, none⟩ = some (.slice v.b v.nb v.cb) := k4.cell 2 rfl
  replace q3 : w4.cell? ⟨w.heap.size, 3, none⟩ = some (.slice v.r v.nr v.cr) := k4.cell 3 rfl
  replace q4 : w4.cell? ⟨w.heap.size, 4, none⟩ = some (.slice v.t v.nt v.ct) := k4.cell 4 rfl
  go_wp2
  go_ret
  exact ⟨zt (by rw [HB.out]), B4⟩
 have t6 : decide ((4 : Int) < v.nt) = false := by simp; omega
 obtain ⟨vs, hT⟩ := hr.rt
 go_enter Try.func27, Try.ntmps27
 go_wp2_with fail
 refine (zR v.s v.ns v.cs p.sems 1 9 _ ls.out (by have := zz.out; omega) (hr.rs.below B0)).mono ?_
 rintro e w1 ⟨rfl, hb⟩
 rw [h1.out]
 have B1 := B0.trans (hb.mono B0.size)
 have k1 := k0.below hb
 clear hb
 have q0 : w1.cell? ⟨w.heap.size, 0, none⟩ = some (.slice v.s v.ns v.cs) := k1.cell 0 rfl
 have q1 : w1.cell? ⟨w.heap.size, 1, none⟩ = some (.slice v.g v.ng v.cg) := k1.cell 1 rfl
 have q2 : w1.cell? ⟨w.heap.size, 2, none⟩ = some (.slice v.b v.nb v.cb) := k1.cell 2 rfl
 have q3 : w1.cell? ⟨w.heap.size, 3, none⟩ = some (.slice v.r v.nr v.cr) := k1.cell 3 rfl
 have q4 : w1.cell? ⟨w.heap.size, 4, none⟩ = some (.slice v.t v.nt v.ct) := k1.cell 4 rfl
 go_wp2_with fail
 refine (zR v.g v.ng v.cg p.groups 0 9 _ lg.out (by have := zz.out; omega) (hr.rg.below B1)).mono ?_
 rintro e w2 ⟨rfl, hb⟩
 rw [h2.out]
 have B2 := B1.trans (hb.mono B1.size)
 have k2 := k1.below hb
 clear hb
 replace q0 : w2.cell? ⟨w.heap.size, 0, none⟩ = some (.slice v.s v.ns v.cs) := k2.cell 0 rfl
 replace q1 : w2.cell? ⟨w.heap.size, 1, none⟩ = some (.slice v.g v.ng v.cg) := k2.cell 1 rfl
 replace q2 : w2.cell? ⟨w.heap.size, 2, none⟩ = some (.slice v.b v.nb v.cb) := k2.cell 2 rfl
 replace q3 : w2.cell? ⟨w.heap.size, 3, none⟩ = some (.slice v.r v.nr v.cr) := k2.cell 3 rfl
 replace q4 : w2.cell? ⟨w.heap.size, 4, none⟩ = some (.slice v.t v.nt v.ct) := k2.cell 4 rfl
 go_wp2_with fail
 refine (zR v.b v.nb v.cb p.barriers 1 6 _ lb.out (by have := zz.out; omega) (hr.rb.below B2)).mono ?_
 rintro e w3 ⟨rfl, hb⟩
 rw [h3.out]
 have B3 := B2.trans (hb.mono B2.size)
 have k3 := k2.below hb
 clear hb
 replace q0 : w3.cell? ⟨w.heap.size, 0, none⟩ = some (.slice v.s v.ns v.cs) := k3.cell 0 rfl
 replace q1 : w3.cell? ⟨w.heap.size, 1, none⟩ = some (.slice v.g v.ng v.cg) := k3.cell 1 rfl
 replace q2 : w3.cell? ⟨w.heap.size, 2, none⟩ = some (.slice v.b v.nb v.cb) := k3.cell 2 rfl
 replace q3 : w3.cell? ⟨w.heap.size, 3, none⟩ = some (.slice v.r v.nr v.cr) := k3.cell 3 rfl
 replace q4 : w3.cell? ⟨w.heap.size, 4, none⟩ = some (.slice v.t v.nt v.ct) := k3.cell 4 rfl
 go_wp2_with fail
 refine (zR v.r v.nr v.cr p.rooms 0 4 _ lr.out (by have := zz.out; omega) (hr.rr.below B3)).mono ?_
 rintro e w4 ⟨rfl, hb⟩
 rw [h4.out]
 have B4 := B3.trans (hb.mono B3.size)
 have k4 := k3.below hb
 clear hb
 replace q0 : w4.cell? ⟨w.heap.size, 0, none⟩ = some (.slice v.s v.ns v.cs) := k4.cell 0 rfl
 replace q1 : w4.cell? ⟨w.heap.size, 1, none⟩ = some (.slice v.g v.ng v.cg) := k4.cell 1 rfl
 replace q2 : w4.cell? ⟨w.heap.size, 2, none⟩ = some (.slice v.b v.nb v.cb) := k4.cell 2 rfl
 replace q3 : w4.cell? ⟨w.heap.size, 3, none⟩ = some (.slice v.r v.nr v.cr) := k4.cell 3 rfl
 replace q4 : w4.cell? ⟨w.heap.size, 4, none⟩ = some (.slice v.t v.nt v.ct) := k4.cell 4 rfl
 go_wp2
 clear k0 k1 k2 k3 B0 B1 B2 B3
 obtain ⟨b1, o1, ea, g1'⟩ := (hT.below B4).thread (by have := lt.out; omega)
 rw [ea] at q4
 have HRP : Hid (∀ w', RdP w' v p → RdP w' ⟨v.s, v.ns, v.cs, v.g, v.ng, v.cg, v.b, v.nb, v.cb, v.r, v.nr, v.cr, some ⟨b1, o1, none⟩, v.nt, v.ct⟩ p) := xH1 (by rw [← ea]; exact fun _ h => h)
 have G1 := xH1 g1'
 rw [ea]
 clear g1' ea hT w1 w2 w3
 go_loopw [44] (fun i wr => ∃ i' : Nat, i' ≤ v.nt ∧ i = .int .i64 i' ∧ Hid (∀ j, j < i' → (p.threads.getD j []).length ≤ 8 ∧ ∀ k, k < (p.threads.getD j []).length → zF p ((p.threads.getD j []).getD k noOp) = true) ∧ Below w4.heap.size w4 wr) (fun i _ => v.nt - (intOf i).toNat)
 case atStart => exact ⟨0, by omega, rfl, xH1 (by omega), Below.refl _ _⟩
 case round =>
  obtain ⟨i, hi, rfl, hall, hb0⟩ := hrel
  have c0 := zd hb0 q0
  have c1 := zd hb0 q1
  have c2 := zd hb0 q2
  have c3 := zd hb0 q3
  have c4 := zd hb0 q4
  have B0 : Below w.heap.size w wr := B4.trans (hb0.mono B4.size)
  by_cases hlt : i < v.nt
  ·obtain ⟨wo, hwo⟩ : ∃ wo : World, wo = wr := ⟨_, rfl⟩
   rw [← hwo] at hb0 c0 c1 c2 c3 c4 B0 ⊢
   clear hwo wr
   obtain ⟨a2, x2, g1, r2⟩ := G1.out i (by have := lt.out; omega)
   obtain ⟨m, hm⟩ : ∃ m, m = (p.threads.getD i []).length := ⟨_, rfl⟩
   rw [← hm] at g1
   replace g1 := zd hb0 g1
   replace r2 := r2.below hb0
   have hmm := Z6.out i
   rw [← hm] at hmm
   have HM := xH1 hm
   clear hm
   by_cases hm8 : 8 < m
   ·have e9 : decide ((8 : Int) < m) = true := by simp; omega
    have HB : Hid (zq p = false) := xH1 (zdS (i := i) (by have := lt.out; omega) (by have := HM.out; omega))
    go_wp2
    go_ret
    exact ⟨zt (by rw [HB.out]), B0⟩
   have e9 : decide ((8 : Int) < m) = false := by simp; omega
   go_wp2
   go_loopw [53] (fun j wk => ∃ k : Nat, k ≤ m ∧ j = .int .i64 k ∧ Hid (∀ j, j < k → zF p ((p.threads.getD i []).getD j noOp) = true) ∧ Below wo.heap.size wo wk) (fun j _ => m - (intOf j).toNat)
   case atStart => exact ⟨0, by omega, rfl, xH1 (by omega), Below.refl _ _⟩
   case round =>
    obtain ⟨k, hk, rfl, hok, hbk⟩ := hrel
    have d0 := zd hbk c0
    have d1 := zd hbk c1
    have d2 := zd hbk c2
    have d3 := zd hbk c3
    have d4 := zd hbk c4
    have B1 : Below w.heap.size w wr := B0.trans (hbk.mono B0.size)
    have BW : Below w4.heap.size w4 wr := hb0.trans (hbk.mono hb0.size)
    by_cases hkl : k < m
    ·obtain ⟨b2, o2, ea2, g2'⟩ := r2.op (by have := HM.out; omega)
     obtain ⟨g2a, g2b, g2c⟩ := g2' k (by have := HM.out; omega)
     obtain ⟨o, ho⟩ : ∃ o, o = (p.threads.getD i []).getD k noOp := ⟨_, rfl⟩
     rw [← ho] at g2a g2b g2c
     replace g2a := zd hbk g2a
     replace g2b := zd hbk g2b
     replace g2c := zd hbk g2c
     have HO := xH1 ho
     subst ea2
     clear g2' ho
     have bA : Below wr.heap.size wr (wr.alloc (.cells #[.int .i64 o.kind, .int .i64 o.on, .int .i64 o.arg] 44)) := xA1
     have e0 := zd bA d0
     have e1 := zd bA d1
     have e2 := zd bA d2
     have e3 := zd bA d3
     have e4 := zd bA d4
     have HR2 : Hid (RdP (wr.alloc (.cells #[.int .i64 o.kind, .int .i64 o.on, .int .i64 o.arg] 44)) ⟨v.s, v.ns, v.cs, v.g, v.ng, v.cg, v.b, v.nb, v.cb, v.r, v.nr, v.cr, some ⟨b1, o1, none⟩, v.nt, v.ct⟩ p) := xH1 (HRP.out _ ((hr.below B1).below bA))
     rcases Bool.eq_false_or_eq_true (zF p o) with hv | hv
     ·have HV := xH1 hv
      clear hv
      go_wp2_with fail
      refine (zeA ⟨v.s, v.ns, v.cs, v.g, v.ng, v.cg, v.b, v.nb, v.cb, v.r, v.nr, v.cr, some ⟨b1, o1, none⟩, v.nt, v.ct⟩ p o _ HR2.out zz.out).mono ?_
      rintro e w2 ⟨rfl, hb3⟩
      rw [HV.out]
      have hbw : Below wr.heap.size wr w2 := bA.trans (hb3.mono bA.size)
      clear bA hb3
      go_wp2
      go_roundw
      case rel => exact ⟨k + 1, by omega, by go_num, xH1 (fun j hj => by
       rcases Nat.lt_or_ge j k with h | h
       ·exact hok.out j h
       ·have : j = k := by omega
        subst this
        rw [← HO.out]; exact HV.out), hbk.trans (hbw.mono hbk.size)⟩
      case measure => simp [intOf]; omega
     ·have HV := xH1 hv
      clear hv
      have HB : Hid (zq p = false) := xH1 (zfk (i := i) (k := k) (by have := lt.out; omega) (by have := HM.out; omega) (by rw [← HO.out]; exact HV.out))
      go_wp2_with fail
      refine (zeA ⟨v.s, v.ns, v.cs, v.g, v.ng, v.cg, v.b, v.nb, v.cb, v.r, v.nr, v.cr, some ⟨b1, o1, none⟩, v.nt, v.ct⟩ p o _ HR2.out zz.out).mono ?_
      rintro e w2 ⟨rfl, hb3⟩
      rw [HV.out]
      have hbw : Below wr.heap.size wr w2 := bA.trans (hb3.mono bA.size)
      clear bA hb3
      go_wp2
      go_ret
      exact ⟨zt (by rw [HB.out]), B1.trans (hbw.mono B1.size)⟩
    ·have hkm : k = m := by omega
     subst hkm
     go_wp2
     go_roundw
     case rel => exact ⟨i + 1, by omega, by go_num, xH1 (fun j hj => by
      rcases Nat.lt_or_ge j i with h | h
      ·exact hall.out j h
      ·have : j = i := by omega
       subst this
       exact ⟨by rw [← HM.out]; omega, by rw [← HM.out]; exact hok.out⟩), BW⟩
     case measure => simp [intOf]; omega
  ·have hkm : i = v.nt := by omega
   subst hkm
   have HB : Hid (zq p = true) := xH1 (zfN h1.out h2.out h3.out h4.out (by have := lt.out; omega) (by have := lt.out; omega) (by rw [lt.out]; exact hall.out))
   go_wp2
   go_ret
   exact ⟨zt (by rw [HB.out]), B0⟩
theorem zij {p : Pg} (h : zq p = true) {i k : Nat} (hi : i < p.threads.length) (hk : k < (p.threads.getD i []).length) : zF p ((p.threads.getD i []).getD k noOp) = true := by
 cases hc : zF p ((p.threads.getD i []).getD k noOp) with
 | true => rfl
 | false => rw [zfk hi hk hc] at h; cases h
theorem zc5 {p : Pg} (h : zq p = true) : 1 ≤ p.threads.length ∧ p.threads.length ≤ 4 := by
 unfold zq at h
 simp only [Bool.and_eq_true, decide_eq_true_eq] at h
 omega
theorem zb1 {p : Pg} {o : OpD} (h : zF p o = true) : (1 ≤ o.kind ∧ o.kind ≤ 10) ∧ (0 ≤ o.on ∧ o.on < zv p o.kind) ∧ zaS p o = true := by
 unfold zF at h
 simp only [Bool.and_eq_true, decide_eq_true_eq] at h
 exact ⟨⟨h.1.1.1.1, h.1.1.1.2⟩, ⟨h.1.1.2, h.1.2⟩, h.2⟩

theorem zhi {p : Pg} (h : zq p = true) {i : Nat} (hi : i < p.threads.length) : (p.threads.getD i []).length ≤ 8 := by
 rcases Nat.lt_or_ge 8 (p.threads.getD i []).length with hc | hc
 ·rw [zdS hi hc] at h; cases h
 ·exact hc
theorem zO (a : Option Addr) (n c : Nat) (xs : List Int) (w : World) (hl : xs.length = n) (hn : n ≤ 1099511627776) (hr : Rd w a (ints xs)) :
  Calls Try.prog 35 #[.slice a n c] w fun e w' => ∃ a' c', e = .returned (.slice a' n c') ∧ w'.ownsRow w.heap.size 3 1 (.slice a' n c') n (ints xs) ∧ Below w.heap.size w w' := by
 have H1 : Hid ((ints xs).length = n * 1) := xH1 (by simp [hl])
 clear hl
 go_enter Try.func35, Try.ntmps35
 go_wp2_with (at_builtin; refine zc6 rfl _ _ 23 rfl Try.underlying23 zaO rfl (by decide) rfl (zjp _ w.heap.size _ _) rfl H1.out hr (zbt xs) (by omega) (by decide) xL1 ?_; intro a1 c1 w1 hown1 hgr1)
 go_wp2
 go_ret
 exact ⟨a1, c1, by simp, by simpa using hown1, z8 hgr1 xL1 (by simp [zi])⟩
end Go.Proofs.Ytppoohbkkdgljaa
