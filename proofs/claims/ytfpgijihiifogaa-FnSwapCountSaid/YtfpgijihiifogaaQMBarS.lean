/- Part of a proof: MBarS. -/
import Derived.Test.YtfpgijihiifogaaQMGrpS
set_option maxRecDepth 100000
set_option maxHeartbeats 16000000
namespace Go.Proofs.Ytfpgijihiifogaa
open Go.RowKit
theorem specBarValid_ok (x : BarD) (a : Option Addr) (n c : Nat) (w : World) (hl : x.waits.length = n) (hc : n ≤ c) (hr : Rd w a (ints x.waits)) (ok : barOk x) :
  Calls Try.prog 75 #[.agg #[.int .i64 x.parties, .int .i64 x.round, .slice a n c]] w fun e w' => e = .returned (.bool true) ∧ Below w.heap.size w w' := by
 obtain ⟨⟨g1, g2⟩, ⟨g3, g4⟩, h6, hz⟩ := ok
 have d1 : decide (1 ≤ x.parties) = true := decide_eq_true g1
 have d2 : decide (x.parties ≤ 6) = true := decide_eq_true g2
 have d3 : decide (0 ≤ x.round) = true := decide_eq_true g3
 have d4 : decide (x.round ≤ 9999) = true := decide_eq_true g4
 have d5 : decide ((n : Int) < x.parties) = true := decide_eq_true (by rw [← hl]; exact hz)
 have HL := xH1 hl
 have H6 := xH1 h6
 clear hl h6 hz
 obtain ⟨W0, hW0⟩ : ∃ W0 : World, W0 = (w.alloc (.cells #[.int .i64 x.parties, .int .i64 x.round, .slice a n c] 87)) := ⟨_, rfl⟩
 have B0 : Below w.heap.size w W0 := by
  rw [hW0]
  exact (xB1.alloc (by simp) _)
 have kS : Blk W0 (w.heap.size) #[.int .i64 x.parties, .int .i64 x.round, .slice a n c] 87 := by
  rw [hW0]
  have h := Blk.new w #[.int .i64 x.parties, .int .i64 x.round, .slice a n c] 87
  exact h
 have hS0 : W0.heap.size = w.heap.size + 1 := by rw [hW0]; simp
 have Hhr := xH1 (hr.below B0)
 have HB := xH1 B0
 clear B0 hr
 have q0 := kS.cell 0 rfl
 have q1 := kS.cell 1 rfl
 have q2 := kS.cell 2 rfl
 go_enter Try.func75, Try.ntmps75
 go_wp2_with fail
 rw [← hW0]
 clear hW0
 refine (specWaits_ok a n c x.waits _ HL.out hc Hhr.out H6.out).mono ?_
 rintro e u1 ⟨rfl, hb⟩
 replace q0 := keepc hb q0
 replace q1 := keepc hb q1
 replace q2 := keepc hb q2
 replace kS := kS.below hb
 replace Hhr := xH1 (Hhr.out.below hb)
 replace HB := xH1 (HB.out.trans (hb.mono HB.out.size))
 clear hb
 go_wp2
 go_ret
 exact ⟨rfl, HB.out⟩
theorem specArrive_ok (x : BarD) (a : Option Addr) (n c : Nat) (t : Int) (w : World) (hl : x.waits.length = n) (hc : n ≤ c) (hr : Rd w a (ints x.waits)) (ok : barOk x) (ht : 0 ≤ t ∧ t < 6) (hno : t ∉ x.waits) (hrd : x.round < 9999) :
  Calls Try.prog 54 #[.agg #[.int .i64 x.parties, .int .i64 x.round, .slice a n c], .int .i64 t] w fun e w' => ∃ (y : BarD) (s u : SlV) (l : List Int), barCome x t = (y, l) ∧ e = .returned (.tuple #[barV y s, u.val, .bool true]) ∧ SlN w w' s (ints y.waits) y.waits.length ∧ w'.ownsRow w.heap.size 3 1 u.val u.n (ints l) ∧ Below w.heap.size w w' := by
 have h6 : n ≤ 6 := by rw [← hl]; exact ok.2.2.1.1
 have g3 := ok.2.1.1
 have HL := xH1 hl
 have HL1 : Hid ((ints x.waits).length = n * 1) := xH1 (by rw [List.length_map, hl, Nat.mul_one])
 have HOK := xH1 ok
 have HFI : Hid (findI x.waits t = -1) := xH1 (findI_not hno)
 have hwr : IntKind.i64.wrap (x.round + 1) = x.round + 1 := Go.IntWalk.i64_in _ (by omega)
 have t9 : (x.round == 9999) = false := by simp; omega
 clear hl ok hno
 obtain ⟨W0, hW0⟩ : ∃ W0 : World, W0 = ((w.alloc (.cells #[.int .i64 x.parties, .int .i64 x.round, .slice a n c] 87)).alloc (.cells #[.int .i64 0, .int .i64 0, .slice none 0 0] 87)) := ⟨_, rfl⟩
 have B0 : Below w.heap.size w W0 := by
  rw [hW0]
  exact ((xB1.alloc (by simp) _).alloc (by simp) _)
 have kS : Blk W0 (w.heap.size) #[.int .i64 x.parties, .int .i64 x.round, .slice a n c] 87 := by
  rw [hW0]
  have h := Blk.new w #[.int .i64 x.parties, .int .i64 x.round, .slice a n c] 87
  exact h |>.alloc _
 have kR : Blk W0 (w.heap.size + 1) #[.int .i64 0, .int .i64 0, .slice none 0 0] 87 := by
  rw [hW0]
  have h := Blk.new (w.alloc (.cells #[.int .i64 x.parties, .int .i64 x.round, .slice a n c] 87)) #[.int .i64 0, .int .i64 0, .slice none 0 0] 87
  simp only [World.size_alloc] at h
  exact h
 have hS0 : W0.heap.size = w.heap.size + 2 := by rw [hW0]; simp
 have Hhr := xH1 (hr.below B0)
 have HB := xH1 B0
 clear B0 hr
 have q0 := kS.cell 0 rfl
 have q1 := kS.cell 1 rfl
 have q2 := kS.cell 2 rfl
 go_enter Try.func54, Try.ntmps54
 go_wp2_with fail
 rw [← hW0]
 clear hW0
 refine (specBarValid_ok x a n c _ HL.out hc Hhr.out HOK.out).mono ?_
 rintro e u1 ⟨rfl, hb⟩
 replace q0 := keepc hb q0
 replace q1 := keepc hb q1
 replace q2 := keepc hb q2
 replace kS := kS.below hb
 replace kR := kR.below hb
 replace Hhr := xH1 (Hhr.out.below hb)
 replace HB := xH1 (HB.out.trans (hb.mono HB.out.size))
 clear hb
 go_wp2_with fail
 refine (specThread_ok t _ ht).mono ?_
 rintro e wsame ⟨rfl, hwsame⟩
 have hwsame' := hwsame.symm
 subst hwsame'
 go_wp2_with fail
 refine (specAt_any a n c x.waits t _ HL.out (by unfold maxLen; omega) Hhr.out).mono ?_
 rintro e wsame ⟨rfl, hwsame⟩
 have hwsame' := hwsame.symm
 subst hwsame'
 rw [HFI.out]
 have HKR := xH1 kR
 have hRlt := xH1 kR.lt
 have HS1 := xH1 HB.out.size
 have HKS := xH1 kS
 clear kS kR
 have bE : Below u1.heap.size u1 (u1.alloc (.cells #[] 3)) := xA1
 have Hr2 := Hhr.out.below bE
 have q2e := keepc bE q2
 have HBE := xH1 (HB.out.trans (bE.mono HB.out.size))
 have hs1 : u1.heap.size ≤ (u1.alloc (.cells #[] 3)).heap.size := bE.size
 clear bE
 by_cases hlt : (x.waits.length : Int) + 1 < x.parties
 ·have HV : Hid (barCome x t = (⟨x.parties, x.round, x.waits ++ [t]⟩, [])) := xH1 (by unfold barCome; rw [if_pos hlt])
  have dl : decide ((n : Int) + 1 < x.parties) = true := decide_eq_true (by rw [← HL.out]; exact hlt)
  clear hlt
  go_wp2_with (at_builtin; first | (refine wpList_append_rd (news := ints x.waits) rfl _ _ 23 rfl Try.underlying23 info_int rfl (by decide) rfl (owns_empty u1 3 1) rfl HL1.out Hr2 (ints_one x.waits) (by omega) (by decide) hs1 ?_; intro a3 c3 w3 ho3 hg3; rw [Nat.zero_add, List.nil_append] at ho3; have kR3 := xH1 ((HKR.out.alloc (.cells #[] 3)).grown hg3 (fun e => by have := hRlt.out; simp only [rowOf, Option.some.injEq] at e; omega)); have kS3 := xH1 ((HKS.out.alloc (.cells #[] 3)).grown hg3 (fun e => by have := hRlt.out; simp only [rowOf, Option.some.injEq] at e; omega)); have HB3 := xH1 (HBE.out.trans (below_of_grown hg3 HBE.out.size (fun q hq => by have := HS1.out; simp only [rowOf, Option.some.injEq] at hq; omega))); have hs3 : u1.heap.size ≤ w3.heap.size := (by have := hg3.size; simp only [World.size_alloc] at this; omega)) | (refine wpList_append_sl (m := 1) (cm := 1) (news := [.int .i64 t]) rfl _ _ 23 rfl Try.underlying23 info_int rfl (by decide) rfl ho3 rfl rfl rfl (by simp [Value.oneCell']) (by omega) (by decide) hs3 ?_; intro a4 c4 w4 ho4 hg4; have kR4 := kR3.out.grown hg4 (blk_owns kR3.out ho3 (by decide : (87 : TypeId) ≠ 3)); have kS4 := kS3.out.grown hg4 (blk_owns kS3.out ho3 (by decide : (87 : TypeId) ≠ 3)); have HB4 := xH1 (HB3.out.trans (below_of_grown hg4 HB3.out.size (fun q hq => by have := (owns_row ho3 q hq).1; have := HS1.out; omega))); have hs4 : u1.heap.size ≤ w4.heap.size := Nat.le_trans hs3 hg4.size; have HO4 := xH1 ho4; have kR5 := kR4.alloc (.cells #[] 3); have kS5 := kS4.alloc (.cells #[] 3); have s0 := kS4.cell 0 rfl; have s1 := kS4.cell 1 rfl; have v0 := kS5.cell 0 rfl; have v1 := kS5.cell 1 rfl; have r0 := kR5.cell 0 rfl; have rz0 := kR5.fz 0; have r1 := kR5.cell 1 rfl; have rz1 := kR5.fz 1; have r2 := kR5.cell 2 rfl; have rz2 := kR5.fz 2; clear ho3 ho4 hg3 hg4 kR4 kS4 kR5 kS5 kR3 kS3))
  have hRl := hRlt.out
  have hS1 := HS1.out
  have bF : Below w4.heap.size w4 (w4.alloc (.cells #[] 3)) := xA1
  have HB5 := HB4.out.trans (bF.mono HB4.out.size)
  have hpp : ints (x.waits ++ [t]) = ints x.waits ++ [.int .i64 t] := by simp [ints]
  have ho5 := owns_below HO4.out bF
  have hT := ((((Touch.refl [w.heap.size + 1] (w4.alloc (.cells #[] 3))).set (v := .int .i64 x.parties) (b := w.heap.size + 1) (j := 0) (by simp)).set (v := .int .i64 x.round) (b := w.heap.size + 1) (j := 1) (by simp)).set (v := .slice a4 (n + 1) c4) (b := w.heap.size + 1) (j := 2) (by simp))
  have hBz := hT.below (B := w.heap.size) HB5.size (fun k hk => by simp only [List.mem_cons, List.not_mem_nil, or_false] at hk; omega)
  have hoA := owns_touch ho5 hT (fun q hq hm => by have := (owns_row ho5 q hq).1; simp only [List.mem_singleton] at hm; omega)
  have hoE := owns_touch (owns_empty w4 3 1) hT (fun q hq hm => by simp only [rowOf, Option.some.injEq] at hq; simp only [List.mem_singleton] at hm; omega)
  refine bodyPost_ret (v := .tuple #[.agg #[.int .i64 x.parties, .int .i64 x.round, .slice a4 (n + 1) c4], .slice (some ⟨w4.heap.size, 0, none⟩) 0 0, .bool true]) (by simp [results, Try.results54, go_sem, r0, r1, r2]) rfl ⟨⟨x.parties, x.round, x.waits ++ [t]⟩, ⟨a4, n + 1, c4⟩, ⟨some ⟨w4.heap.size, 0, none⟩, 0, 0⟩, [], HV.out, rfl, ?_, ?_, HB5.trans hBz⟩
  ·have hsn := SlN.of_owns (w0 := w) hoA hS1
   refine ⟨by show _ = (x.waits ++ [t]).length; rw [List.length_append, HL.out]; rfl, ?_, ?_, hsn.cap, by show ints (x.waits ++ [t]) = [] ∨ _; rw [hpp]; exact hsn.ty⟩
   ·show Rd _ _ (ints (x.waits ++ [t]))
    rw [hpp]; exact hsn.rd
   ·show ints (x.waits ++ [t]) = [] ∨ _
    rw [hpp]; exact hsn.new
  ·exact owns_mono hoE (by omega)
 ·have HV : Hid (barCome x t = (⟨x.parties, x.round + 1, []⟩, x.waits ++ [t])) := xH1 (by unfold barCome; rw [if_neg hlt])
  have dl : decide ((n : Int) + 1 < x.parties) = false := decide_eq_false (by rw [← HL.out]; exact hlt)
  clear hlt
  go_wp2_with (at_builtin; first | (refine wpList_append_rd (news := ints x.waits) rfl _ _ 23 rfl Try.underlying23 info_int rfl (by decide) rfl (owns_empty u1 3 1) rfl HL1.out Hr2 (ints_one x.waits) (by omega) (by decide) hs1 ?_; intro a3 c3 w3 ho3 hg3; rw [Nat.zero_add, List.nil_append] at ho3; have kR3 := xH1 ((HKR.out.alloc (.cells #[] 3)).grown hg3 (fun e => by have := hRlt.out; simp only [rowOf, Option.some.injEq] at e; omega)); have kS3 := xH1 ((HKS.out.alloc (.cells #[] 3)).grown hg3 (fun e => by have := hRlt.out; simp only [rowOf, Option.some.injEq] at e; omega)); have HB3 := xH1 (HBE.out.trans (below_of_grown hg3 HBE.out.size (fun q hq => by have := HS1.out; simp only [rowOf, Option.some.injEq] at hq; omega))); have hs3 : u1.heap.size ≤ w3.heap.size := (by have := hg3.size; simp only [World.size_alloc] at this; omega)) | (refine wpList_append_sl (m := 1) (cm := 1) (news := [.int .i64 t]) rfl _ _ 23 rfl Try.underlying23 info_int rfl (by decide) rfl ho3 rfl rfl rfl (by simp [Value.oneCell']) (by omega) (by decide) hs3 ?_; intro a4 c4 w4 ho4 hg4; have kR4 := kR3.out.grown hg4 (blk_owns kR3.out ho3 (by decide : (87 : TypeId) ≠ 3)); have kS4 := kS3.out.grown hg4 (blk_owns kS3.out ho3 (by decide : (87 : TypeId) ≠ 3)); have HB4 := xH1 (HB3.out.trans (below_of_grown hg4 HB3.out.size (fun q hq => by have := (owns_row ho3 q hq).1; have := HS1.out; omega))); have hs4 : u1.heap.size ≤ w4.heap.size := Nat.le_trans hs3 hg4.size; have HO4 := xH1 ho4; have kR5 := kR4.alloc (.cells #[] 3); have kS5 := kS4.alloc (.cells #[] 3); have s0 := kS4.cell 0 rfl; have s1 := kS4.cell 1 rfl; have v0 := kS5.cell 0 rfl; have v1 := kS5.cell 1 rfl; have r0 := kR5.cell 0 rfl; have rz0 := kR5.fz 0; have r1 := kR5.cell 1 rfl; have rz1 := kR5.fz 1; have r2 := kR5.cell 2 rfl; have rz2 := kR5.fz 2; clear ho3 ho4 hg3 hg4 kR4 kS4 kR5 kS5 kR3 kS3))
  have hRl := hRlt.out
  have hS1 := HS1.out
  have bF : Below w4.heap.size w4 (w4.alloc (.cells #[] 3)) := xA1
  have HB5 := HB4.out.trans (bF.mono HB4.out.size)
  have hpp : ints (x.waits ++ [t]) = ints x.waits ++ [.int .i64 t] := by simp [ints]
  have ho5 := owns_below HO4.out bF
  have hT := ((((Touch.refl [w.heap.size + 1] (w4.alloc (.cells #[] 3))).set (v := .int .i64 x.parties) (b := w.heap.size + 1) (j := 0) (by simp)).set (v := .int .i64 (x.round + 1)) (b := w.heap.size + 1) (j := 1) (by simp)).set (v := .slice (some ⟨w4.heap.size, 0, none⟩) 0 0) (b := w.heap.size + 1) (j := 2) (by simp))
  have hBz := hT.below (B := w.heap.size) HB5.size (fun k hk => by simp only [List.mem_cons, List.not_mem_nil, or_false] at hk; omega)
  have hoA := owns_touch ho5 hT (fun q hq hm => by have := (owns_row ho5 q hq).1; simp only [List.mem_singleton] at hm; omega)
  have hoE := owns_touch (owns_empty w4 3 1) hT (fun q hq hm => by simp only [rowOf, Option.some.injEq] at hq; simp only [List.mem_singleton] at hm; omega)
  refine bodyPost_ret (v := .tuple #[.agg #[.int .i64 x.parties, .int .i64 (x.round + 1), .slice (some ⟨w4.heap.size, 0, none⟩) 0 0], .slice a4 (n + 1) c4, .bool true]) (by simp [results, Try.results54, go_sem, r0, r1, r2]) rfl ⟨⟨x.parties, x.round + 1, []⟩, ⟨some ⟨w4.heap.size, 0, none⟩, 0, 0⟩, ⟨a4, n + 1, c4⟩, x.waits ++ [t], HV.out, rfl, ?_, ?_, HB5.trans hBz⟩
  ·exact SlN.of_owns (w0 := w) hoE (by omega)
  ·rw [hpp]; exact owns_mono hoA hS1
end Go.Proofs.Ytfpgijihiifogaa
