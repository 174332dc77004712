/- Part of a proof: MGrpS2 MGrpS3. -/
import Derived.Test.YtfpgijihiifogaaQMGrpS
set_option maxRecDepth 100000
set_option maxHeartbeats 16000000
namespace Go.Proofs.Ytfpgijihiifogaa
open Go.RowKit
theorem specAddGroup_ok (g : GrpD) (a : Option Addr) (n c : Nat) (m : Int) (w : World) (hl : g.waits.length = n) (hc : n ≤ c) (hr : Rd w a (ints g.waits)) (ok : grpOk g) (hm : -99 ≤ m ∧ m ≤ 99) :
  Calls Try.prog 52 #[.agg #[.int .i64 g.count, .slice a n c], .int .i64 m] w fun e w' => ∃ (y : GrpD) (s u : SlV) (l : List Int) (b : Bool), grpAdd g m = (if b = true then some (y, l) else none) ∧ e = .returned (.tuple #[grpV y s, u.val, .bool b]) ∧ SlN w w' s (ints y.waits) y.waits.length ∧ w'.ownsRow w.heap.size 3 1 u.val u.n (ints l) ∧ (ints y.waits = [] ∨ ∀ q, rowOf s.a = some q → rowOf u.a ≠ some q) ∧ Below w.heap.size w w' := by
 have h6 : n ≤ 6 := by rw [← hl]; exact ok.2.1.1
 have g1 := ok.1.1
 have g2 := ok.1.2
 have d1 : decide (m < -99) = false := decide_eq_false (by omega)
 have d2 : decide (99 < m) = false := decide_eq_false (by omega)
 have hm1 := hm.1
 have hm2 := hm.2
 have HL := xH1 hl
 have HL1 : Hid ((ints g.waits).length = n * 1) := xH1 (by rw [List.length_map, hl, Nat.mul_one])
 have HOK := xH1 ok
 clear hl ok hm
 by_cases hin : 0 ≤ g.count + m ∧ g.count + m ≤ 99
 ·have hde : decide (0 ≤ g.count + m ∧ g.count + m ≤ 99) = true := decide_eq_true hin
  obtain ⟨hn1, hn2⟩ := hin
  by_cases hz : g.count + m = 0
  ·have HV : Hid (grpAdd g m = some (⟨0, []⟩, g.waits)) := xH1 (by unfold grpAdd; rw [if_pos ⟨hn1, hn2⟩, if_pos hz])
   have HDE := xH1 hde
   have e0 : (g.count + m == 0) = true := by simp [hz]
   clear hde hz
   obtain ⟨W0, hW0⟩ : ∃ W0 : World, W0 = ((w.alloc (.cells #[.int .i64 g.count, .slice a n c] 85)).alloc (.cells #[.int .i64 0, .slice none 0 0] 85)) := ⟨_, rfl⟩
   have B0 : Below w.heap.size w W0 := by
    rw [hW0]
    exact ((xB1.alloc (by simp) _).alloc (by simp) _)
   have kS : Blk W0 (w.heap.size) #[.int .i64 g.count, .slice a n c] 85 := by
    rw [hW0]
    have h := Blk.new w #[.int .i64 g.count, .slice a n c] 85
    exact h |>.alloc _
   have kR : Blk W0 (w.heap.size + 1) #[.int .i64 0, .slice none 0 0] 85 := by
    rw [hW0]
    have h := Blk.new (w.alloc (.cells #[.int .i64 g.count, .slice a n c] 85)) #[.int .i64 0, .slice none 0 0] 85
    simp only [World.size_alloc] at h
    exact h
   have hS0 : W0.heap.size = w.heap.size + 2 := by rw [hW0]; simp
   have Hhr := xH1 (hr.below B0)
   have HB := xH1 B0
   clear B0 hr
   have q0 := kS.cell 0 rfl
   have q1 := kS.cell 1 rfl
   go_enter Try.func52, Try.ntmps52
   go_wp2_with fail
   rw [← hW0]
   clear hW0
   refine (specGroupValid_ok g a n c _ HL.out hc Hhr.out HOK.out).mono ?_
   rintro e w1 ⟨rfl, hb⟩
   replace q0 := keepc hb q0
   replace q1 := keepc hb q1
   replace kS := kS.below hb
   replace kR := kR.below hb
   replace Hhr := xH1 (Hhr.out.below hb)
   replace HB := xH1 (HB.out.trans (hb.mono HB.out.size))
   clear hb
   go_wp2_with fail
   refine (specValue_any (g.count + m) _).mono ?_
   rintro e wsame ⟨rfl, hwsame⟩
   have hwsame' := hwsame.symm
   subst hwsame'
   rw [HDE.out]
   have kR1 := xH1 kR
   have hRlt := xH1 kR.lt
   have HS1 := xH1 HB.out.size
   clear kS kR
   have bE : Below w1.heap.size w1 (w1.alloc (.cells #[] 3)) := xA1
   have Hr2 := Hhr.out.below bE
   have q1e := keepc bE q1
   have HBE := xH1 (HB.out.trans (bE.mono HB.out.size))
   have hs1 : w1.heap.size ≤ (w1.alloc (.cells #[] 3)).heap.size := bE.size
   clear bE
   go_wp2_with (at_builtin; refine wpList_append_rd (news := ints g.waits) rfl _ _ 23 rfl Try.underlying23 info_int rfl (by decide) rfl (owns_empty w1 3 1) rfl HL1.out Hr2 (ints_one g.waits) (by omega) (by decide) hs1 ?_; intro a3 c3 w3 ho3 hg3; rw [Nat.zero_add, List.nil_append] at ho3; have kR3 := (kR1.out.alloc (.cells #[] 3)).grown hg3 (fun e => by have := hRlt.out; simp only [rowOf, Option.some.injEq] at e; omega); have HB3 := xH1 (HBE.out.trans (below_of_grown hg3 HBE.out.size (fun q hq => by have := HS1.out; simp only [rowOf, Option.some.injEq] at hq; omega))); have r0 := kR3.cell 0 rfl; have rz0 := kR3.fz 0; have r1 := kR3.cell 1 rfl; have rz1 := kR3.fz 1; have HO3 := xH1 ho3; clear kR3 ho3 hg3)
   have hRl := hRlt.out
   have hS1 := HS1.out
   have hT := (((Touch.refl [w.heap.size + 1] w3).set (v := .int .i64 0) (b := w.heap.size + 1) (j := 0) (by simp)).set (v := .slice none 0 0) (b := w.heap.size + 1) (j := 1) (by simp))
   have hBz := hT.below (B := w.heap.size) HB3.out.size (fun k hk => by simp only [List.mem_cons, List.not_mem_nil, or_false] at hk; omega)
   refine bodyPost_ret (v := .tuple #[.agg #[.int .i64 0, .slice none 0 0], .slice a3 n c3, .bool true]) (by simp [results, Try.results52, go_sem, r0, r1]) rfl ⟨⟨0, []⟩, nilV, ⟨a3, n, c3⟩, _, true, HV.out, rfl, SlN.nil _ _, ?_, .inl rfl, HB3.out.trans hBz⟩
   exact owns_mono (owns_touch HO3.out hT (fun q hq hm => by have := (owns_row HO3.out q hq).1; simp only [List.mem_singleton] at hm; omega)) hS1
  ·have HV : Hid (grpAdd g m = some (⟨g.count + m, g.waits⟩, [])) := xH1 (by unfold grpAdd; rw [if_pos ⟨hn1, hn2⟩, if_neg hz])
   have HDE := xH1 hde
   have e0 : (g.count + m == 0) = false := by simpa using hz
   clear hde hz
   obtain ⟨W0, hW0⟩ : ∃ W0 : World, W0 = ((w.alloc (.cells #[.int .i64 g.count, .slice a n c] 85)).alloc (.cells #[.int .i64 0, .slice none 0 0] 85)) := ⟨_, rfl⟩
   have B0 : Below w.heap.size w W0 := by
    rw [hW0]
    exact ((xB1.alloc (by simp) _).alloc (by simp) _)
   have kS : Blk W0 (w.heap.size) #[.int .i64 g.count, .slice a n c] 85 := by
    rw [hW0]
    have h := Blk.new w #[.int .i64 g.count, .slice a n c] 85
    exact h |>.alloc _
   have kR : Blk W0 (w.heap.size + 1) #[.int .i64 0, .slice none 0 0] 85 := by
    rw [hW0]
    have h := Blk.new (w.alloc (.cells #[.int .i64 g.count, .slice a n c] 85)) #[.int .i64 0, .slice none 0 0] 85
    simp only [World.size_alloc] at h
    exact h
   have hS0 : W0.heap.size = w.heap.size + 2 := by rw [hW0]; simp
   have Hhr := xH1 (hr.below B0)
   have HB := xH1 B0
   clear B0 hr
   have q0 := kS.cell 0 rfl
   have q1 := kS.cell 1 rfl
   go_enter Try.func52, Try.ntmps52
   go_wp2_with fail
   rw [← hW0]
   clear hW0
   refine (specGroupValid_ok g a n c _ HL.out hc Hhr.out HOK.out).mono ?_
   rintro e w1 ⟨rfl, hb⟩
   replace q0 := keepc hb q0
   replace q1 := keepc hb q1
   replace kS := kS.below hb
   replace kR := kR.below hb
   replace Hhr := xH1 (Hhr.out.below hb)
   replace HB := xH1 (HB.out.trans (hb.mono HB.out.size))
   clear hb
   go_wp2_with fail
   refine (specValue_any (g.count + m) _).mono ?_
   rintro e wsame ⟨rfl, hwsame⟩
   have hwsame' := hwsame.symm
   subst hwsame'
   rw [HDE.out]
   have kR1 := xH1 kR
   have hRlt := xH1 kR.lt
   have HS1 := xH1 HB.out.size
   clear kS kR
   have bE : Below w1.heap.size w1 (w1.alloc (.cells #[] 3)) := xA1
   have Hr2 := Hhr.out.below bE
   have q1e := keepc bE q1
   have HBE := xH1 (HB.out.trans (bE.mono HB.out.size))
   have hs1 : w1.heap.size ≤ (w1.alloc (.cells #[] 3)).heap.size := bE.size
   clear bE
   go_wp2_with (at_builtin; refine wpList_append_rd (news := ints g.waits) rfl _ _ 23 rfl Try.underlying23 info_int rfl (by decide) rfl (owns_empty w1 3 1) rfl HL1.out Hr2 (ints_one g.waits) (by omega) (by decide) hs1 ?_; intro a3 c3 w3 ho3 hg3; rw [Nat.zero_add, List.nil_append] at ho3; have kR3 := (kR1.out.alloc (.cells #[] 3)).grown hg3 (fun e => by have := hRlt.out; simp only [rowOf, Option.some.injEq] at e; omega); have HB3 := xH1 (HBE.out.trans (below_of_grown hg3 HBE.out.size (fun q hq => by have := HS1.out; simp only [rowOf, Option.some.injEq] at hq; omega))); have kR4 := kR3.alloc (.cells #[] 3); have r0 := kR4.cell 0 rfl; have rz0 := kR4.fz 0; have r1 := kR4.cell 1 rfl; have rz1 := kR4.fz 1; have HO3 := xH1 ho3; have HK3 := xH1 kR3; have HG3 := xH1 hg3.size; clear kR3 kR4 ho3 hg3)
   have hRl := hRlt.out
   have hS1 := HS1.out
   have hs3 := HG3.out
   have bF : Below w3.heap.size w3 (w3.alloc (.cells #[] 3)) := xA1
   have HB4 := HB3.out.trans (bF.mono HB3.out.size)
   have hT := (((Touch.refl [w.heap.size + 1] (w3.alloc (.cells #[] 3))).set (v := .int .i64 (g.count + m)) (b := w.heap.size + 1) (j := 0) (by simp)).set (v := .slice a3 n c3) (b := w.heap.size + 1) (j := 1) (by simp))
   have hBz := hT.below (B := w.heap.size) HB4.size (fun k hk => by simp only [List.mem_cons, List.not_mem_nil, or_false] at hk; omega)
   refine bodyPost_ret (v := .tuple #[.agg #[.int .i64 (g.count + m), .slice a3 n c3], .slice (some ⟨w3.heap.size, 0, none⟩) 0 0, .bool true]) (by simp [results, Try.results52, go_sem, r0, r1]) rfl ⟨⟨g.count + m, g.waits⟩, ⟨a3, n, c3⟩, ⟨some ⟨w3.heap.size, 0, none⟩, 0, 0⟩, [], true, HV.out, rfl, ?_, ?_, .inr (fun q hq hu => by have h1 := (owns_row HO3.out q hq).2; simp only [rowOf, Option.some.injEq] at hu; omega), HB4.trans hBz⟩
   ·have hsn := SlN.of_owns (w0 := w) (owns_touch (owns_below HO3.out bF) hT (fun q hq hm => by have := (owns_row HO3.out q hq).1; simp only [List.mem_singleton] at hm; omega)) hS1
    exact ⟨HL.out.symm, hsn.rd, hsn.new, hsn.cap, hsn.ty⟩
   ·exact owns_mono (owns_touch (owns_empty w3 3 1) hT (fun q hq hm => by simp only [rowOf, Option.some.injEq] at hq; simp only [List.mem_singleton] at hm; simp only [World.size_alloc] at hs3; omega)) (by simp only [World.size_alloc] at hs3; omega)
 ·have HV : Hid (grpAdd g m = none) := xH1 (by unfold grpAdd; rw [if_neg hin])
  have HDE : Hid (decide (0 ≤ g.count + m ∧ g.count + m ≤ 99) = false) := xH1 (decide_eq_false hin)
  clear hin
  obtain ⟨W0, hW0⟩ : ∃ W0 : World, W0 = ((w.alloc (.cells #[.int .i64 g.count, .slice a n c] 85)).alloc (.cells #[.int .i64 0, .slice none 0 0] 85)) := ⟨_, rfl⟩
  have B0 : Below w.heap.size w W0 := by
   rw [hW0]
   exact ((xB1.alloc (by simp) _).alloc (by simp) _)
  have kS : Blk W0 (w.heap.size) #[.int .i64 g.count, .slice a n c] 85 := by
   rw [hW0]
   have h := Blk.new w #[.int .i64 g.count, .slice a n c] 85
   exact h |>.alloc _
  have kR : Blk W0 (w.heap.size + 1) #[.int .i64 0, .slice none 0 0] 85 := by
   rw [hW0]
   have h := Blk.new (w.alloc (.cells #[.int .i64 g.count, .slice a n c] 85)) #[.int .i64 0, .slice none 0 0] 85
   simp only [World.size_alloc] at h
   exact h
  have hS0 : W0.heap.size = w.heap.size + 2 := by rw [hW0]; simp
  have Hhr := xH1 (hr.below B0)
  have HB := xH1 B0
  clear B0 hr
  have q0 := kS.cell 0 rfl
  have q1 := kS.cell 1 rfl
  go_enter Try.func52, Try.ntmps52
  go_wp2_with fail
  rw [← hW0]
  clear hW0
  refine (specGroupValid_ok g a n c _ HL.out hc Hhr.out HOK.out).mono ?_
  rintro e w1 ⟨rfl, hb⟩
  replace q0 := keepc hb q0
  replace q1 := keepc hb q1
  replace kS := kS.below hb
  replace kR := kR.below hb
  replace Hhr := xH1 (Hhr.out.below hb)
  replace HB := xH1 (HB.out.trans (hb.mono HB.out.size))
  clear hb
  go_wp2_with fail
  refine (specValue_any (g.count + m) _).mono ?_
  rintro e wsame ⟨rfl, hwsame⟩
  have hwsame' := hwsame.symm
  subst hwsame'
  rw [HDE.out]
  have kR1 := xH1 kR
  have hRlt := xH1 kR.lt
  have HS1 := xH1 HB.out.size
  clear kS kR
  have kR3 := kR1.out.alloc (.cells #[] 3)
  have r0 := kR3.cell 0 rfl
  have rz0 := kR3.fz 0
  have r1 := kR3.cell 1 rfl
  have rz1 := kR3.fz 1
  clear kR3
  go_wp2
  have hRl := hRlt.out
  have hS1 := HS1.out
  have HBE := HB.out.alloc HB.out.size (.cells #[] 3)
  have hT := (((Touch.refl [w.heap.size + 1] (w1.alloc (.cells #[] 3))).set (v := .int .i64 0) (b := w.heap.size + 1) (j := 0) (by simp)).set (v := .slice none 0 0) (b := w.heap.size + 1) (j := 1) (by simp))
  have hBz := hT.below (B := w.heap.size) HBE.size (fun k hk => by simp only [List.mem_cons, List.not_mem_nil, or_false] at hk; omega)
  refine bodyPost_ret (v := .tuple #[.agg #[.int .i64 0, .slice none 0 0], .slice (some ⟨w1.heap.size, 0, none⟩) 0 0, .bool false]) (by simp [results, Try.results52, go_sem, r0, r1]) rfl ⟨noGrp, nilV, ⟨some ⟨w1.heap.size, 0, none⟩, 0, 0⟩, [], false, HV.out, rfl, SlN.nil _ _, ?_, .inl rfl, HBE.trans hBz⟩
  exact owns_mono (owns_touch (owns_empty w1 3 1) hT (fun q hq hm => by simp only [rowOf, Option.some.injEq] at hq; simp only [List.mem_singleton] at hm; omega)) hS1
theorem specWaitGroup_ok (x : GrpD) (a : Option Addr) (n c : Nat) (t : Int) (w : World) (hl : x.waits.length = n) (hc : n ≤ c) (hr : Rd w a (ints x.waits)) (ok : grpOk x) (ht : 0 ≤ t ∧ t < 6) (hno : t ∉ x.waits) :
  Calls Try.prog 53 #[.agg #[.int .i64 x.count, .slice a n c], .int .i64 t] w fun e w' => ∃ (y : GrpD) (s : SlV), y = (grpWait x t).1 ∧ e = .returned (.tuple #[grpV y s, .bool (grpWait x t).2, .bool true]) ∧ SlN w w' s (ints y.waits) y.waits.length ∧ Below w.heap.size w w' := by
 have h6 : n ≤ 6 := by rw [← hl]; exact ok.2.1.1
 have HL := xH1 hl
 have HL1 : Hid ((ints x.waits).length = n * 1) := xH1 (by rw [List.length_map, hl, Nat.mul_one])
 have HOK := xH1 ok
 have HFI : Hid (findI x.waits t = -1) := xH1 (findI_not hno)
 clear hl ok hno
 obtain ⟨W0, hW0⟩ : ∃ W0 : World, W0 = ((w.alloc (.cells #[.int .i64 x.count, .slice a n c] 85)).alloc (.cells #[.int .i64 0, .slice none 0 0] 85)) := ⟨_, rfl⟩
 have B0 : Below w.heap.size w W0 := by
  rw [hW0]
  exact ((xB1.alloc (by simp) _).alloc (by simp) _)
 have kS : Blk W0 (w.heap.size) #[.int .i64 x.count, .slice a n c] 85 := by
  rw [hW0]
  have h := Blk.new w #[.int .i64 x.count, .slice a n c] 85
  exact h |>.alloc _
 have kR : Blk W0 (w.heap.size + 1) #[.int .i64 0, .slice none 0 0] 85 := by
  rw [hW0]
  have h := Blk.new (w.alloc (.cells #[.int .i64 x.count, .slice a n c] 85)) #[.int .i64 0, .slice none 0 0] 85
  simp only [World.size_alloc] at h
  exact h
 have hS0 : W0.heap.size = w.heap.size + 2 := by rw [hW0]; simp
 have Hhr := xH1 (hr.below B0)
 have HB := xH1 B0
 clear B0 hr
 have q0 := kS.cell 0 rfl
 have q1 := kS.cell 1 rfl
 go_enter Try.func53, Try.ntmps53
 go_wp2_with fail
 rw [← hW0]
 clear hW0
 refine (specGroupValid_ok x a n c _ HL.out hc Hhr.out HOK.out).mono ?_
 rintro e u1 ⟨rfl, hb⟩
 replace q0 := keepc hb q0
 replace q1 := keepc hb q1
 replace kS := kS.below hb
 replace kR := kR.below hb
 replace Hhr := xH1 (Hhr.out.below hb)
 replace HB := xH1 (HB.out.trans (hb.mono HB.out.size))
 clear hb
 go_wp2_with fail
 refine (specThread_ok t _ ht).mono ?_
 rintro e wsame ⟨rfl, hwsame⟩
 have hwsame' := hwsame.symm
 subst hwsame'
 go_wp2_with fail
 refine (specAt_any a n c x.waits t _ HL.out (by unfold maxLen; omega) Hhr.out).mono ?_
 rintro e wsame ⟨rfl, hwsame⟩
 have hwsame' := hwsame.symm
 subst hwsame'
 rw [HFI.out]
 have HKR := xH1 kR
 have hRlt := xH1 kR.lt
 have HS1 := xH1 HB.out.size
 clear kS kR
 go_wp2
 refine wp_region_fresh 8 (by kernel_rfl) (by kernel_rfl) [fun dz uz wz => uz = .pointer (some ⟨w.heap.size, 0, none⟩), fun dz uz wz => uz = .int .i64 x.count, fun dz uz wz => ∃ gz : Nat, uz = .slice (some ⟨gz, 0, none⟩) 0 0 ∧ wz.ownsRow u1.heap.size 3 1 (.slice (some ⟨gz, 0, none⟩) 0 0) 0 [], fun dz uz wz => uz = .pointer (some ⟨w.heap.size, 1, none⟩), fun dz uz wz => uz = .slice a n c, fun dz uz wz => ∃ (az : Option Addr) (cz : Nat), uz = .slice az n cz ∧ wz.ownsRow u1.heap.size 3 1 (.slice az n cz) n (ints x.waits) ∧ (n = 0 → cz = 0), fun dz uz wz => uz = (.agg #[(dz.getD 0 undef), (dz.getD 1 undef)] : Value), fun dz uz wz => ∃ gz : Nat, uz = .pointer (some ⟨gz, 0, none⟩) ∧ Blk wz gz #[.int .i64 0, .slice none 0 0] 85 ∧ u1.heap.size ≤ gz] (fun i => match i with | 7 => ptBk | _ => fun _ => none) (fun w' => Below u1.heap.size u1 w') xB1.drew (stab_of ⟨fun _ _ _ _ _ h => h, fun _ _ _ _ _ h => h, fun _ _ _ _ hb ⟨g, e, h⟩ => ⟨g, e, owns_below h hb⟩, fun _ _ _ _ _ h => h, fun _ _ _ _ _ h => h, fun _ _ _ _ hb ⟨a, c, e, h, h0⟩ => ⟨a, c, e, owns_below h hb, h0⟩, fun _ _ _ _ _ h => h, fun _ _ _ _ hb ⟨g, e, h, hs⟩ => ⟨g, e, h.below hb, hs⟩, trivial⟩) ?_ ?_
 ·simp only [List.take_succ_cons, List.take_zero]
  refine ⟨?_, ?_, ?_, ?_, ?_, ?_, ?_, ?_, trivial⟩
  ·intro ρ w1 hG hfr hd
   obtain ⟨fc, ff⟩ := xF1 hfr
   have f2 : ρ (.tmp 2) = .pointer (some ⟨w.heap.size, 0, none⟩) := hfr _ rfl
   refine gives_val (u := .pointer (some ⟨w.heap.size, 0, none⟩)) (w' := w1) (by go_simp) ⟨Below.refl _ _, rfl, xN1, hG⟩
  ·intro ρ w1 hG hfr hd
   obtain ⟨fc, ff⟩ := xF1 hfr
   obtain ⟨d0, -⟩ := hd
   have d0 : (ρ (.tmp 24)) = .pointer (some ⟨w.heap.size, 0, none⟩) := d0
   have q0 := keepc hG q0
   refine gives_val (u := .int .i64 x.count) (w' := w1) (by go_simp) ⟨Below.refl _ _, rfl, xN1, hG⟩
  ·intro ρ w1 hG hfr hd
   obtain ⟨fc, ff⟩ := xF1 hfr
   refine gives_val (u := .slice (some ⟨w1.heap.size, 0, none⟩) 0 0) (w' := w1.alloc (.cells #[] 3)) (by go_simp) ⟨xA1, ⟨_, rfl, owns_mono (owns_empty w1 3 1) hG.size⟩, xN1, hG.alloc hG.size _⟩
  ·intro ρ w1 hG hfr hd
   obtain ⟨fc, ff⟩ := xF1 hfr
   have f2 : ρ (.tmp 2) = .pointer (some ⟨w.heap.size, 0, none⟩) := hfr _ rfl
   refine gives_val (u := .pointer (some ⟨w.heap.size, 1, none⟩)) (w' := w1) (by go_simp) ⟨Below.refl _ _, rfl, xN1, hG⟩
  ·intro ρ w1 hG hfr hd
   obtain ⟨fc, ff⟩ := xF1 hfr
   obtain ⟨d0, -⟩ := hd
   have d0 : (ρ (.tmp 27)) = .pointer (some ⟨w.heap.size, 1, none⟩) := d0
   have q1 := keepc hG q1
   refine gives_val (u := .slice a n c) (w' := w1) (by go_simp) ⟨Below.refl _ _, rfl, xN1, hG⟩
  ·intro ρ w1 hG hfr hd
   obtain ⟨fc, ff⟩ := xF1 hfr
   obtain ⟨d0, d1, -⟩ := hd
   have d0 : ∃ gz : Nat, (ρ (.tmp 26)) = .slice (some ⟨gz, 0, none⟩) 0 0 ∧ w1.ownsRow u1.heap.size 3 1 (.slice (some ⟨gz, 0, none⟩) 0 0) 0 [] := d0
   have d1 : (ρ (.tmp 28)) = .slice a n c := d1
   obtain ⟨g, d0, hg⟩ := d0
   refine gives_append_new _ _ 23 rfl Try.underlying23 info_int rfl (by decide) d0 hg d1 HL1.out (Hhr.out.below hG) (ints_one _) (by omega) (by decide) hG.size ?_
   intro a c w2 hown hb hf h0
   exact ⟨hb, ⟨a, c, rfl, hown, h0⟩, xN1, hG.trans (hb.mono hG.size)⟩
  ·intro ρ w1 hG hfr hd
   obtain ⟨fc, ff⟩ := xF1 hfr
   obtain ⟨d0, d1, -⟩ := hd
   have d0 : (ρ (.tmp 25)) = .int .i64 x.count := d0
   have d1 : ∃ (az : Option Addr) (cz : Nat), (ρ (.tmp 29)) = .slice az n cz ∧ w1.ownsRow u1.heap.size 3 1 (.slice az n cz) n (ints x.waits) ∧ (n = 0 → cz = 0) := d1
   obtain ⟨azz, czz, d1, -, -⟩ := d1
   refine gives_val (u := .agg #[.int .i64 x.count, .slice azz n czz]) (w' := w1) (by go_simp) ⟨Below.refl _ _, ?_, xN1, hG⟩
   show Value.agg #[.int .i64 x.count, .slice azz n czz] = (.agg #[(ρ (.tmp 25)), (ρ (.tmp 29))] : Value)
   rw [d0, d1]
  ·intro ρ w1 hG hfr hd
   obtain ⟨fc, ff⟩ := xF1 hfr
   refine gives_val (u := .pointer (some ⟨w1.heap.size, 0, none⟩)) (w' := w1.alloc (.cells #[.int .i64 0, .slice none 0 0] 85)) (by go_simp) ⟨xA1, ⟨_, rfl, Blk.new _ _ _, hG.size⟩, ptBk_new _ _, hG.alloc hG.size _⟩
 intro vs w2 hG hlen hall hap hbd
 obtain ⟨xv0, vs0, rfl, hl0⟩ := len_cons hlen
 obtain ⟨xv1, vs1, rfl, hl1⟩ := len_cons hl0
 obtain ⟨xv2, vs2, rfl, hl2⟩ := len_cons hl1
 obtain ⟨xv3, vs3, rfl, hl3⟩ := len_cons hl2
 obtain ⟨xv4, vs4, rfl, hl4⟩ := len_cons hl3
 obtain ⟨xv5, vs5, rfl, hl5⟩ := len_cons hl4
 obtain ⟨xv6, vs6, rfl, hl6⟩ := len_cons hl5
 obtain ⟨xv7, vs7, rfl, hl7⟩ := len_cons hl6
 obtain rfl := len_nil hl7
 clear hlen hl0 hl1 hl2 hl3 hl4 hl5 hl6 hl7
 simp only [List.take_succ_cons, List.take_zero, List.drop_succ_cons, List.drop_zero] at hall ⊢
 obtain ⟨t0', t1', t2', t3', t4', t5', t6', t7', -⟩ := hall
 have hv0 : xv0 = .pointer (some ⟨w.heap.size, 0, none⟩) := t0'
 have hv1 : xv1 = .int .i64 x.count := t1'
 have hv2 : ∃ gz : Nat, xv2 = .slice (some ⟨gz, 0, none⟩) 0 0 ∧ w2.ownsRow u1.heap.size 3 1 (.slice (some ⟨gz, 0, none⟩) 0 0) 0 [] := t2'
 have hv3 : xv3 = .pointer (some ⟨w.heap.size, 1, none⟩) := t3'
 have hv4 : xv4 = .slice a n c := t4'
 have hv5 : ∃ (az : Option Addr) (cz : Nat), xv5 = .slice az n cz ∧ w2.ownsRow u1.heap.size 3 1 (.slice az n cz) n (ints x.waits) ∧ (n = 0 → cz = 0) := t5'
 have hv6 : xv6 = (.agg #[xv1, xv5] : Value) := t6'
 have hv7 : ∃ gz : Nat, xv7 = .pointer (some ⟨gz, 0, none⟩) ∧ Blk w2 gz #[.int .i64 0, .slice none 0 0] 85 ∧ u1.heap.size ≤ gz := t7'
 clear t0' t1' t2' t3' t4' t5' t6' t7'
 clear hap hbd
 subst hv0 hv1 hv3 hv4
 obtain ⟨a2, c2, rfl, hown, -⟩ := hv5
 obtain ⟨bo, rfl, kO, hbo⟩ := hv7
 simp only [putAll, Act.put, List.setIfInBounds_toArray, List.set_cons_succ, List.set_cons_zero]
 have kO1 := (kO.set 0 (.int .i64 x.count)).set 1 (.slice a2 n c2)
 have hne : w.heap.size + 1 ≠ bo := by have := hRlt.out; omega
 have kR1 := ((HKR.out.below hG).other ⟨bo, 0, none⟩ (.int .i64 x.count) hne).other ⟨bo, 1, none⟩ (.slice a2 n c2) hne
 have hT0 := ((Touch.refl [bo] w2).set (v := .int .i64 x.count) (b := bo) (j := 0) (by simp)).set (v := .slice a2 n c2) (b := bo) (j := 1) (by simp)
 have hown1 := owns_touch hown hT0 (fun q hq hm => by simp only [List.mem_singleton] at hm; exact blk_owns kO hown (by decide : (85 : TypeId) ≠ 3) (by rw [hq, hm]))
 have hB2 := (HB.out.trans (hG.mono HB.out.size))
 have hB1 := hB2.trans (hT0.below (B := w.heap.size) hB2.size (fun k hk => by have := HS1.out; simp only [List.mem_singleton] at hk; omega))
 have hk0 := keepc hG q0
 have hk0' := cell_touch hT0 hk0 (by show w.heap.size ∉ [bo]; simp only [List.mem_singleton]; have := hRlt.out; omega)
 have x0 := kO.fz 0
 have x1 := kO.fz 1
 have e0 := kO.cell 0 rfl
 have e1 := kO.cell 1 rfl
 obtain ⟨WS, hWS⟩ : ∃ WS : World, WS = ((w2.setCell ⟨bo, 0, none⟩ (.int .i64 x.count)).setCell ⟨bo, 1, none⟩ (.slice a2 n c2)) := ⟨_, rfl⟩
 rw [← hWS] at kO1 kR1 hown1 hB1 hk0'
 have HKO := xH1 kO1
 have HKR1 := xH1 kR1
 have HOWN := xH1 hown1
 have HB1 := xH1 hB1
 have HBO := xH1 hbo
 clear hT0 hB2 q0 q1 hk0 hG HKR hown
 have o0 := kO1.cell 0 rfl
 have o1 := kO1.cell 1 rfl
 have oz0 := kO1.fz 0
 have oz1 := kO1.fz 1
 have r0 := kR1.cell 0 rfl
 have r1 := kR1.cell 1 rfl
 have rz0 := kR1.fz 0
 have rz1 := kR1.fz 1
 clear kO1 kR1 kO hB1 hown1 hbo
 by_cases h0 : x.count = 0
 ·have HV : Hid (grpWait x t = (x, true)) := xH1 (by unfold grpWait; rw [if_pos h0])
  have t0 : (x.count == 0) = true := by simp [h0]
  clear h0 hne
  subst hWS
  go_wp2
  have hRl := hRlt.out
  have hbo := HBO.out
  have hS1 := HS1.out
  have hT := (((Touch.refl [w.heap.size + 1] ((w2.setCell ⟨bo, 0, none⟩ (.int .i64 x.count)).setCell ⟨bo, 1, none⟩ (.slice a2 n c2))).set (v := .int .i64 x.count) (b := w.heap.size + 1) (j := 0) (by simp)).set (v := .slice a2 n c2) (b := w.heap.size + 1) (j := 1) (by simp))
  have hBz := hT.below (B := w.heap.size) HB1.out.size (fun k hk => by simp only [List.mem_cons, List.not_mem_nil, or_false] at hk; omega)
  refine bodyPost_ret (v := .tuple #[.agg #[.int .i64 x.count, .slice a2 n c2], .bool true, .bool true]) (by simp [results, Try.results53, go_sem, r0, r1]) rfl ⟨x, ⟨a2, n, c2⟩, by rw [HV.out], by rw [HV.out], ?_, HB1.out.trans hBz⟩
  have hsn := SlN.of_owns (w0 := w) (owns_touch HOWN.out hT (fun q hq hm => by have := (owns_row HOWN.out q hq).1; simp only [List.mem_singleton] at hm; omega)) hS1
  exact ⟨HL.out.symm, hsn.rd, hsn.new, hsn.cap, hsn.ty⟩
 ·have HV : Hid (grpWait x t = (⟨x.count, x.waits ++ [t]⟩, false)) := xH1 (by unfold grpWait; rw [if_neg h0])
  have t0 : (x.count == 0) = false := by simpa using h0
  clear h0 r0 r1 rz0 rz1
  subst hWS
  have hsB : u1.heap.size ≤ ((w2.setCell ⟨bo, 0, none⟩ (.int .i64 x.count)).setCell ⟨bo, 1, none⟩ (.slice a2 n c2)).heap.size := by have := HKO.out.lt; have := HBO.out; omega
  go_wp2_with (at_builtin; refine wpList_append_sl (m := 1) (cm := 1) (news := [.int .i64 t]) rfl _ _ 23 rfl Try.underlying23 info_int rfl (by decide) rfl HOWN.out (by show Value.slice (some ⟨w2.heap.size, 0, none⟩) 1 1 = _; simp) rfl rfl (by simp [Value.oneCell']) (by omega) (by decide) hsB ?_; intro a3 c3 w3 hown3 hgr3; have kO3 := HKO.out.grown hgr3 (blk_owns HKO.out HOWN.out (by decide : (85 : TypeId) ≠ 3)); have kR3 := HKR1.out.grown hgr3 (blk_owns HKR1.out HOWN.out (by decide : (85 : TypeId) ≠ 3)); have ofz3 := kO3.fz 1; have og3 := kO3.cell 1 rfl; have kO4 := kO3.set 1 (.slice a3 (n + 1) c3); have kR4 := kR3.other ⟨bo, 1, none⟩ (.slice a3 (n + 1) c3) hne; have p0 := kO4.cell 0 rfl; have p1 := kO4.cell 1 rfl; have r0 := kR4.cell 0 rfl; have rz0 := kR4.fz 0; have r1 := kR4.cell 1 rfl; have rz1 := kR4.fz 1; have hnO := blk_owns kO3 hown3 (by decide : (85 : TypeId) ≠ 3); have hnR := blk_owns kR3 hown3 (by decide : (85 : TypeId) ≠ 3); have HO3 := xH1 hown3; have HG3 := xH1 hgr3; clear kO3 kR3 kO4 kR4 hown3 hgr3)
  have hRl := hRlt.out
  have hbo := HBO.out
  have hS1 := HS1.out
  have hB3 := HB1.out.trans (below_of_grown HG3.out HB1.out.size (fun q hq => by have := (owns_row HOWN.out q hq).1; omega))
  have hT := ((((Touch.refl [bo, w.heap.size + 1] w3).set (v := .slice a3 (n + 1) c3) (b := bo) (j := 1) (by simp)).set (v := .int .i64 x.count) (b := w.heap.size + 1) (j := 0) (by simp)).set (v := .slice a3 (n + 1) c3) (b := w.heap.size + 1) (j := 1) (by simp))
  have hBz := hT.below (B := w.heap.size) hB3.size (fun k hk => by simp only [List.mem_cons, List.not_mem_nil, or_false] at hk; omega)
  refine bodyPost_ret (v := .tuple #[.agg #[.int .i64 x.count, .slice a3 (n + 1) c3], .bool false, .bool true]) (by simp [results, Try.results53, go_sem, r0, r1]) rfl ⟨⟨x.count, x.waits ++ [t]⟩, ⟨a3, n + 1, c3⟩, by rw [HV.out], by rw [HV.out], ?_, hB3.trans hBz⟩
  have hown4 := owns_touch HO3.out hT (fun q hq hm => by
   simp only [List.mem_cons, List.not_mem_nil, or_false] at hm
   rcases hm with rfl | rfl
   ·exact hnO hq
   ·exact hnR hq)
  have hsn := SlN.of_owns (w0 := w) hown4 hS1
  have hpp : ints (x.waits ++ [t]) = ints x.waits ++ [.int .i64 t] := by simp [ints]
  refine ⟨by show _ = (x.waits ++ [t]).length; rw [List.length_append, HL.out]; rfl, ?_, ?_, hsn.cap, by show ints (x.waits ++ [t]) = [] ∨ _; rw [hpp]; exact hsn.ty⟩
  ·show Rd _ _ (ints (x.waits ++ [t]))
   rw [hpp]; exact hsn.rd
  ·show ints (x.waits ++ [t]) = [] ∨ _
   rw [hpp]; exact hsn.new
end Go.Proofs.Ytfpgijihiifogaa
