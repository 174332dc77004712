/- Part of a proof: MSemS2 MSemS3 MSemS4. -/
import Derived.Test.YtfpgijihiifogaaQPFr
set_option maxRecDepth 100000
set_option maxHeartbeats 16000000
namespace Go.Proofs.Ytfpgijihiifogaa
open Go.RowKit
theorem specAcquire_ok (x : SemD) (a : Option Addr) (n c : Nat) (t m : Int) (w : World) (hl : x.queue.length = n) (hr : Rd w a (pairs x.queue)) (ok : semOk x) (ht : 0 ≤ t ∧ t < 6) (hm : 1 ≤ m ∧ m ≤ x.limit) (hno : t ∉ x.queue.map (·.1)) :
  Calls Try.prog 48 #[.agg #[.int .i64 x.free, .int .i64 x.limit, .slice a n c], .int .i64 t, .int .i64 m] w fun e w' => ∃ (y : SemD) (s : SlV), y = (semAcq x t m).1 ∧ e = .returned (.tuple #[semV y s, .bool (semAcq x t m).2, .bool true]) ∧ SlN w w' s (pairs y.queue) y.queue.length ∧ Below w.heap.size w w' := by
 have h6 : n ≤ 6 := by rw [← hl]; simpa using ok.2.2.2.1.1
 have d1 : decide (m < 1) = false := decide_eq_false (by omega)
 have d2 : decide (x.limit < m) = false := decide_eq_false (by omega)
 have hfi : findI (x.queue.map (·.1)) t = -1 := findI_not hno
 have HL := xH1 hl
 have HOK := xH1 ok
 have HT := xH1 ht
 have HFI := xH1 hfi
 have f1 := ok.2.1.1
 have f2 := ok.2.1.2
 have f3 := ok.1.2
 have hm1 := hm.1
 have hm2 := hm.2
 clear hl ok ht hfi hno
 obtain ⟨W0, hW0⟩ : ∃ W0 : World, W0 = ((w.alloc (.cells #[.int .i64 x.free, .int .i64 x.limit, .slice a n c] 79)).alloc (.cells #[.int .i64 0, .int .i64 0, .slice none 0 0] 79)) := ⟨_, rfl⟩
 have B0 : Below w.heap.size w W0 := by
  rw [hW0]
  exact ((xB1.alloc (by simp) _).alloc (by simp) _)
 have kS : Blk W0 (w.heap.size) #[.int .i64 x.free, .int .i64 x.limit, .slice a n c] 79 := by
  rw [hW0]
  have h := Blk.new w #[.int .i64 x.free, .int .i64 x.limit, .slice a n c] 79
  exact h |>.alloc _
 have kR : Blk W0 (w.heap.size + 1) #[.int .i64 0, .int .i64 0, .slice none 0 0] 79 := by
  rw [hW0]
  have h := Blk.new (w.alloc (.cells #[.int .i64 x.free, .int .i64 x.limit, .slice a n c] 79)) #[.int .i64 0, .int .i64 0, .slice none 0 0] 79
  simp only [World.size_alloc] at h
  exact h
 have hS0 : W0.heap.size = w.heap.size + 2 := by rw [hW0]; simp
 have HR := xH1 (hr.below B0)
 have HB := xH1 B0
 clear hr B0
 have q0 := kS.cell 0 rfl
 have q1 := kS.cell 1 rfl
 have q2 := kS.cell 2 rfl
 go_enter Try.func48, Try.ntmps48
 go_wp2_with fail
 rw [← hW0]
 clear hW0
 refine (specSemValid_ok x a n c _ HL.out HR.out HOK.out).mono ?_
 rintro e w1 ⟨rfl, hb⟩
 replace q0 := keepc hb q0
 replace q1 := keepc hb q1
 replace q2 := keepc hb q2
 replace kR := kR.below hb
 have HB1 := xH1 (HB.out.trans (hb.mono HB.out.size))
 have HR1 := xH1 (HR.out.below hb)
 have kR1lt := xH1 (kR.lt)
 clear hb HR kS
 go_wp2_with fail
 refine (specThread_ok t _ HT.out).mono ?_
 rintro e w3 ⟨rfl, hw3⟩
 have hw3' := hw3.symm
 subst hw3'
 go_wp2_with fail
 refine (specFind_any a n c x.queue t _ HL.out (by unfold maxLen; omega) HR1.out).mono ?_
 rintro e w3 ⟨rfl, hw3⟩
 have hw3' := hw3.symm
 subst hw3'
 rw [HFI.out]
 go_wp2_with fail
 refine (specSemCopy_any x a n c _ HL.out (by omega) HR1.out).mono ?_
 rintro e w2 ⟨a2, c2, rfl, hown, hb⟩
 have HB2 := xH1 (HB1.out.trans (hb.mono HB1.out.size))
 replace q0 := keepc hb q0
 replace q2 := keepc hb q2
 replace kR := kR.below hb
 have kR0 := kR
 have hz1 : w.heap.size + 2 ≤ w1.heap.size := by have := kR1lt.out; omega
 obtain ⟨WA, hWA⟩ : ∃ WA : World, WA = w2.alloc (.cells #[.int .i64 x.free, .int .i64 x.limit, .slice a2 n c2] 79) := ⟨_, rfl⟩
 have bA : Below w2.heap.size w2 WA := by rw [hWA]; exact xA1
 have kO : Blk WA w2.heap.size #[.int .i64 x.free, .int .i64 x.limit, .slice a2 n c2] 79 := by rw [hWA]; exact Blk.new _ _ _
 have hSA : WA.heap.size = w2.heap.size + 1 := by rw [hWA]; simp
 have hS2 := hb.size
 replace q0 := keepc bA q0
 replace q2 := keepc bA q2
 replace kR := kR.below bA
 have HBA := xH1 (HB2.out.trans (bA.mono HB2.out.size))
 have hownA := owns_below hown bA
 have HOWN := xH1 hownA
 have hrow2 := fun q hq => owns_row hown q hq
 have HROW := xH1 hrow2
 have kR2 := kR0
 clear kR0 hb bA HR1 hrow2
 have o0 := kO.cell 0 rfl
 have o1 := kO.cell 1 rfl
 have o2 := kO.cell 2 rfl
 have oz0 := kO.fz 0
 have oz1 := kO.fz 1
 have oz2 := kO.fz 2
 by_cases hif : x.queue = [] ∧ m ≤ x.free
 ·have hn0 : n = 0 := by rw [← HL.out, hif.1]; rfl
  have hmf := hif.2
  have HV : Hid (semAcq x t m = (⟨x.free - m, x.limit, x.queue⟩, true)) := xH1 (by unfold semAcq; rw [if_pos hif])
  have dm : decide (m ≤ x.free) = true := decide_eq_true hmf
  obtain ⟨WB, hWB⟩ : ∃ WB : World, WB = w2.alloc (.cells #[.int .i64 (x.free - m), .int .i64 x.limit, .slice a2 n c2] 79) := ⟨_, rfl⟩
  have bB : Below w2.heap.size w2 WB := by rw [hWB]; exact xA1
  have kO1 : Blk WB w2.heap.size #[.int .i64 (x.free - m), .int .i64 x.limit, .slice a2 n c2] 79 := by rw [hWB]; exact Blk.new _ _ _
  have kR1 := kR2.below bB
  have hown2 := owns_below hown bB
  have hBB := HB2.out.trans (bB.mono HB2.out.size)
  have HO2 := xH1 hown2
  have HBB := xH1 hBB
  have p0 := kO1.cell 0 rfl
  have p1 := kO1.cell 1 rfl
  have p2 := kO1.cell 2 rfl
  have r0 := kR1.cell 0 rfl
  have r1 := kR1.cell 1 rfl
  have r2 := kR1.cell 2 rfl
  have rz0 := kR1.fz 0
  have rz1 := kR1.fz 1
  have rz2 := kR1.fz 2
  subst hn0
  clear hif kO1 kR1 kO kR kR2 bB hown hown2 hBB
  subst hWA hWB
  go_wp2
  have hT := ((Touch.refl [w.heap.size + 1] (w2.alloc (.cells #[.int .i64 (x.free - m), .int .i64 x.limit, .slice a2 0 c2] 79))).set (v := .int .i64 (x.free - m)) (j := 0) (List.mem_singleton.2 rfl)).set (v := .int .i64 x.limit) (j := 1) (List.mem_singleton.2 rfl) |>.set (v := .slice a2 0 c2) (j := 2) (List.mem_singleton.2 rfl)
  have hBz := hT.below (B := w.heap.size) (by simp; omega) (fun k hk => by simp only [List.mem_singleton] at hk; omega)
  refine bodyPost_ret (v := .tuple #[.agg #[.int .i64 (x.free - m), .int .i64 x.limit, .slice a2 0 c2], .bool true, .bool true]) (by simp [results, Try.results48, go_sem, r0, r1, r2]) rfl ⟨⟨x.free - m, x.limit, x.queue⟩, ⟨a2, 0, c2⟩, by rw [HV.out], by rw [HV.out], ?_, HBB.out.trans hBz⟩
  have hown3 := owns_touch HO2.out hT (fun q hq hm => by have := (HROW.out q hq).1; simp only [List.mem_singleton] at hm; omega)
  have hsn := SlN.of_owns (w0 := w) hown3 (by omega)
  refine ⟨HL.out.symm, hsn.rd, hsn.new, hsn.cap, hsn.ty⟩
 ·have HV : Hid (semAcq x t m = (⟨x.free, x.limit, x.queue ++ [(t, m)]⟩, false)) := xH1 (by unfold semAcq; rw [if_neg hif])
  have hne : w.heap.size + 1 ≠ (⟨w2.heap.size, 2, none⟩ : Addr).block := by show w.heap.size + 1 ≠ w2.heap.size; omega
  have hq0 : n = 0 → decide (m ≤ x.free) = false := fun h0 => decide_eq_false (fun hm => hif ⟨List.eq_nil_of_length_eq_zero (by rw [HL.out]; exact h0), hm⟩)
  have hwx : ∀ (b : Bool), True := fun _ => trivial
  clear hif hwx
  by_cases hn0 : n = 0
  ·have t1 := hq0 hn0
   subst hn0
   clear hq0
   subst hWA
   go_wp2_with (at_builtin; refine wpList_append_sl (m := 1) (cm := 1) (news := [.int .i64 t, .int .i64 m]) rfl _ _ 77 rfl Try.underlying77 info_way rfl (by decide) rfl HOWN.out (by show Value.slice (some ⟨w2.heap.size + 1, 0, none⟩) 1 1 = _; simp) rfl rfl (by simp [Value.oneCell']) (by omega) (by decide) (by simp; omega) ?_; intro a3 c3 w3 hown3 hgr3; have kO3 := kO.grown hgr3 (blk_owns kO HOWN.out (by decide : (79 : TypeId) ≠ 132)); have kR3 := kR.grown hgr3 (blk_owns kR HOWN.out (by decide : (79 : TypeId) ≠ 132)); have ofz2 := kO3.fz 2; have og2 := kO3.cell 2 rfl; have kO4 := kO3.set 2 (.slice a3 (0 + 1) c3); have kR4 := kR3.other ⟨w2.heap.size, 2, none⟩ (.slice a3 (0 + 1) c3) hne; have p0 := kO4.cell 0 rfl; have p1 := kO4.cell 1 rfl; have p2 := kO4.cell 2 rfl; have r0 := kR4.cell 0 rfl; have rz0 := kR4.fz 0; have r1 := kR4.cell 1 rfl; have rz1 := kR4.fz 1; have r2 := kR4.cell 2 rfl; have rz2 := kR4.fz 2; have hnO := blk_owns kO3 hown3 (by decide : (79 : TypeId) ≠ 132); have hnR := blk_owns kR3 hown3 (by decide : (79 : TypeId) ≠ 132); have HO3 := xH1 hown3; have HG3 := xH1 hgr3; clear kO kR kO3 kR3 kO4 kR4 hown3 hgr3)
   have hT := (((Touch.refl [w2.heap.size, w.heap.size + 1] w3).set (v := .slice a3 (0 + 1) c3) (b := w2.heap.size) (j := 2) (by simp)).set (v := .int .i64 x.free) (b := w.heap.size + 1) (j := 0) (by simp)).set (v := .int .i64 x.limit) (b := w.heap.size + 1) (j := 1) (by simp) |>.set (v := .slice a3 (0 + 1) c3) (b := w.heap.size + 1) (j := 2) (by simp)
   have hB3 := HBA.out.trans (below_of_grown HG3.out HBA.out.size (fun q hq => by have := (HROW.out q hq).1; omega))
   have hBz := hT.below (B := w.heap.size) hB3.size (fun k hk => by simp only [List.mem_cons, List.not_mem_nil, or_false] at hk; omega)
   have hown4 := owns_touch HO3.out hT (fun q hq hm => by
    simp only [List.mem_cons, List.not_mem_nil, or_false] at hm
    rcases hm with rfl | rfl
    ·exact hnO hq
    ·exact hnR hq)
   have hsn := SlN.of_owns (w0 := w) hown4 (by omega)
   have hpp : pairs (x.queue ++ [(t, m)]) = pairs x.queue ++ [.int .i64 t, .int .i64 m] := by simp [pairs, pair]
   refine bodyPost_ret (v := .tuple #[.agg #[.int .i64 x.free, .int .i64 x.limit, .slice a3 (0 + 1) c3], .bool false, .bool true]) (by simp [results, Try.results48, go_sem, r0, r1, r2]) rfl ⟨⟨x.free, x.limit, x.queue ++ [(t, m)]⟩, ⟨a3, 0 + 1, c3⟩, by rw [HV.out], by rw [HV.out], ⟨by show _ = (x.queue ++ [(t, m)]).length; rw [List.length_append, HL.out]; rfl, ?_, ?_, hsn.cap, by rw [hpp]; exact hsn.ty⟩, hB3.trans hBz⟩
   ·rw [hpp]; exact hsn.rd
   ·rw [hpp]; exact hsn.new
  ·have t0 : ((n : Int) == 0) = false := by simp; omega
   clear hq0
   subst hWA
   go_wp2_with (at_builtin; refine wpList_append_sl (m := 1) (cm := 1) (news := [.int .i64 t, .int .i64 m]) rfl _ _ 77 rfl Try.underlying77 info_way rfl (by decide) rfl HOWN.out (by show Value.slice (some ⟨w2.heap.size + 1, 0, none⟩) 1 1 = _; simp) rfl rfl (by simp [Value.oneCell']) (by omega) (by decide) (by simp; omega) ?_; intro a3 c3 w3 hown3 hgr3; have kO3 := kO.grown hgr3 (blk_owns kO HOWN.out (by decide : (79 : TypeId) ≠ 132)); have kR3 := kR.grown hgr3 (blk_owns kR HOWN.out (by decide : (79 : TypeId) ≠ 132)); have ofz2 := kO3.fz 2; have og2 := kO3.cell 2 rfl; have kO4 := kO3.set 2 (.slice a3 (n + 1) c3); have kR4 := kR3.other ⟨w2.heap.size, 2, none⟩ (.slice a3 (n + 1) c3) hne; have p0 := kO4.cell 0 rfl; have p1 := kO4.cell 1 rfl; have p2 := kO4.cell 2 rfl; have r0 := kR4.cell 0 rfl; have rz0 := kR4.fz 0; have r1 := kR4.cell 1 rfl; have rz1 := kR4.fz 1; have r2 := kR4.cell 2 rfl; have rz2 := kR4.fz 2; have hnO := blk_owns kO3 hown3 (by decide : (79 : TypeId) ≠ 132); have hnR := blk_owns kR3 hown3 (by decide : (79 : TypeId) ≠ 132); have HO3 := xH1 hown3; have HG3 := xH1 hgr3; clear kO kR kO3 kR3 kO4 kR4 hown3 hgr3)
   have hT := (((Touch.refl [w2.heap.size, w.heap.size + 1] w3).set (v := .slice a3 (n + 1) c3) (b := w2.heap.size) (j := 2) (by simp)).set (v := .int .i64 x.free) (b := w.heap.size + 1) (j := 0) (by simp)).set (v := .int .i64 x.limit) (b := w.heap.size + 1) (j := 1) (by simp) |>.set (v := .slice a3 (n + 1) c3) (b := w.heap.size + 1) (j := 2) (by simp)
   have hB3 := HBA.out.trans (below_of_grown HG3.out HBA.out.size (fun q hq => by have := (HROW.out q hq).1; omega))
   have hBz := hT.below (B := w.heap.size) hB3.size (fun k hk => by simp only [List.mem_cons, List.not_mem_nil, or_false] at hk; omega)
   have hown4 := owns_touch HO3.out hT (fun q hq hm => by
    simp only [List.mem_cons, List.not_mem_nil, or_false] at hm
    rcases hm with rfl | rfl
    ·exact hnO hq
    ·exact hnR hq)
   have hsn := SlN.of_owns (w0 := w) hown4 (by omega)
   have hpp : pairs (x.queue ++ [(t, m)]) = pairs x.queue ++ [.int .i64 t, .int .i64 m] := by simp [pairs, pair]
   refine bodyPost_ret (v := .tuple #[.agg #[.int .i64 x.free, .int .i64 x.limit, .slice a3 (n + 1) c3], .bool false, .bool true]) (by simp [results, Try.results48, go_sem, r0, r1, r2]) rfl ⟨⟨x.free, x.limit, x.queue ++ [(t, m)]⟩, ⟨a3, n + 1, c3⟩, by rw [HV.out], by rw [HV.out], ⟨by show _ = (x.queue ++ [(t, m)]).length; rw [List.length_append, HL.out]; rfl, ?_, ?_, hsn.cap, by rw [hpp]; exact hsn.ty⟩, hB3.trans hBz⟩
   ·rw [hpp]; exact hsn.rd
   ·rw [hpp]; exact hsn.new
theorem specServe_any (x : SemD) (a : Option Addr) (n c : Nat) (w : World) (hl : x.queue.length = n) (hn : n ≤ 6) (hr : Rd w a (pairs x.queue)) (hf : 0 ≤ x.free ∧ x.free ≤ 9) (hc : ∀ y ∈ x.queue, 1 ≤ y.2 ∧ y.2 ≤ 9) :
  Calls Try.prog 71 #[.agg #[.int .i64 x.free, .int .i64 x.limit, .slice a n c]] w fun e w' => ∃ (y : SemD) (s u : SlV), y = ⟨(serve x.free x.queue).1, x.limit, (serve x.free x.queue).2.2⟩ ∧ e = .returned (.tuple #[semV y s, u.val]) ∧ SlN w w' s (pairs y.queue) y.queue.length ∧ w'.ownsRow w.heap.size 3 1 u.val u.n (ints (serve x.free x.queue).2.1) ∧ (pairs y.queue = [] ∨ ∀ q, rowOf s.a = some q → rowOf u.a ≠ some q) ∧ Below w.heap.size w w' := by
 have HL := xH1 hl
 have HF := xH1 hf
 have HC := xH1 hc
 clear hl hf hc
 obtain ⟨W0, hW0⟩ : ∃ W0 : World, W0 = ((w.alloc (.cells #[.int .i64 x.free, .int .i64 x.limit, .slice a n c] 79)).alloc (.cells #[.int .i64 0, .int .i64 0, .slice none 0 0] 79)) := ⟨_, rfl⟩
 have B0 : Below w.heap.size w W0 := by
  rw [hW0]
  exact ((xB1.alloc (by simp) _).alloc (by simp) _)
 have kS : Blk W0 (w.heap.size) #[.int .i64 x.free, .int .i64 x.limit, .slice a n c] 79 := by
  rw [hW0]
  have h := Blk.new w #[.int .i64 x.free, .int .i64 x.limit, .slice a n c] 79
  exact h |>.alloc _
 have kR : Blk W0 (w.heap.size + 1) #[.int .i64 0, .int .i64 0, .slice none 0 0] 79 := by
  rw [hW0]
  have h := Blk.new (w.alloc (.cells #[.int .i64 x.free, .int .i64 x.limit, .slice a n c] 79)) #[.int .i64 0, .int .i64 0, .slice none 0 0] 79
  simp only [World.size_alloc] at h
  exact h
 have hS0 : W0.heap.size = w.heap.size + 2 := by rw [hW0]; simp
 have HR := xH1 (hr.below B0)
 have HB := xH1 B0
 clear hr B0
 have q0 := kS.cell 0 rfl
 have q1 := kS.cell 1 rfl
 have q2 := kS.cell 2 rfl
 clear kS
 go_enter Try.func71, Try.ntmps71
 go_wp2_with fail
 rw [← hW0]
 clear hW0
 refine (specSemCopy_any x a n c _ HL.out (by omega) HR.out).mono ?_
 rintro e wc ⟨a2, c2, rfl, hown, hb⟩
 have HB2 := xH1 (HB.out.trans (hb.mono HB.out.size))
 replace kR := kR.below hb
 have hRlt := kR.lt
 have hS2 := hb.size
 have HS2 := xH1 hS2
 clear q0 q1 q2 HR
 obtain ⟨WA, hWA⟩ : ∃ WA : World, WA = (wc.alloc (.cells #[.int .i64 x.free, .int .i64 x.limit, .slice a2 n c2] 79)).alloc (.cells #[] 3) := ⟨_, rfl⟩
 have kO : Blk WA wc.heap.size #[.int .i64 x.free, .int .i64 x.limit, .slice a2 n c2] 79 := by rw [hWA]; exact (Blk.new _ _ _).alloc _
 have bA : Below wc.heap.size wc WA := by rw [hWA]; exact (xA1).alloc (by simp) _
 have kRA := kR.below bA
 have hqA := owns_below hown bA
 have hgA : WA.ownsRow wc.heap.size 3 1 (.slice (some ⟨wc.heap.size + 1, 0, none⟩) 0 0) 0 [] := by
  rw [hWA]
  have := owns_mono (owns_empty (wc.alloc (.cells #[.int .i64 x.free, .int .i64 x.limit, .slice a2 n c2] 79)) 3 1) (B' := wc.heap.size) (by simp)
  simpa using this
 have HBA := xH1 (HB2.out.trans (bA.mono HB2.out.size))
 have HKA := xH1 kO
 have HKR := xH1 kRA
 have HQA := xH1 hqA
 have HGA := xH1 hgA
 have hWAs : wc.heap.size < WA.heap.size := kO.lt
 have hne0 : w.heap.size + 1 ≠ wc.heap.size := by omega
 clear hb hown bA kR kRA kO hqA hgA
 go_wp2
 rw [← hWA]
 clear hWA
 go_loopw [5] (fun vg wr => ∃ (f : Int) (q : List (Int × Int)) (got : List Int) (aq ag : Option Addr) (mq cq ng cg : Nat), vg = .slice ag ng cg ∧ mq ≤ 6 ∧ ng + mq = n ∧ Hid (0 ≤ f ∧ f ≤ 9) ∧ Hid (q.length = mq) ∧ Hid (∀ y ∈ q, 1 ≤ y.2 ∧ y.2 ≤ 9) ∧ Hid ((serve x.free x.queue).1 = (serve f q).1 ∧ (serve x.free x.queue).2.1 = got ++ (serve f q).2.1 ∧ (serve x.free x.queue).2.2 = (serve f q).2.2) ∧ Blk wr wc.heap.size #[.int .i64 f, .int .i64 x.limit, .slice aq mq cq] 79 ∧ Blk wr (w.heap.size + 1) #[.int .i64 0, .int .i64 0, .slice none 0 0] 79 ∧ Hid (wr.ownsRow W0.heap.size 132 2 (.slice aq mq cq) mq (pairs q)) ∧ Hid (wr.ownsRow W0.heap.size 3 1 (.slice ag ng cg) ng (ints got)) ∧ Hid (Below w.heap.size w wr)) (fun vg _ => 7 - (match vg with | .slice _ k _ => k | _ => 0))
 case atStart => exact ⟨x.free, x.queue, [], a2, some ⟨wc.heap.size + 1, 0, none⟩, n, c2, 0, 0, rfl, hn, by omega, HF, HL, HC, xH1 ⟨rfl, rfl, rfl⟩, HKA.out, HKR.out, HQA, xH1 (owns_mono HGA.out HS2.out), HBA⟩
 case round =>
  obtain ⟨f, q, got, aq, ag, mq, cq, ng, cg, rfl, h6, hsum, hf, hql, hqc, hsv, kO, kR, hq, hg, hb⟩ := hrel
  have o0 := kO.cell 0 rfl
  have o1 := kO.cell 1 rfl
  have o2 := kO.cell 2 rfl
  have oz0 := kO.fz 0
  have oz1 := kO.fz 1
  have oz2 := kO.fz 2
  have r0 := kR.cell 0 rfl
  have r1 := kR.cell 1 rfl
  have r2 := kR.cell 2 rfl
  have rz0 := kR.fz 0
  have rz1 := kR.fz 1
  have rz2 := kR.fz 2
  cases q with
  | nil =>
   have h0 : mq = 0 := by have := hql.out; simpa using this.symm
   subst h0
   clear kO kR
   go_wp2
   go_quiet (fail)
   go_wp2
   have hT := ((((Touch.of_below (S := [w.heap.size + 1]) (below_drewN' (B := wr.heap.size) wr nq)).set (v := .int .i64 f) (b := w.heap.size + 1) (j := 0) (by simp)).set (v := .int .i64 x.limit) (b := w.heap.size + 1) (j := 1) (by simp)).set (v := .slice aq 0 cq) (b := w.heap.size + 1) (j := 2) (by simp))
   have hBz := hT.below (B := w.heap.size) hb.out.size (fun k hk => by simp only [List.mem_singleton] at hk; omega)
   have hq4 := owns_touch hq.out hT (fun q hq' hm => by have := (owns_row hq.out q hq').1; simp only [List.mem_singleton] at hm; omega)
   have hg4 := owns_touch hg.out hT (fun q hq' hm => by have := (owns_row hg.out q hq').1; simp only [List.mem_singleton] at hm; omega)
   have hsn := SlN.of_owns (w0 := w) hq4 (by omega)
   have hs2 := hsv.out
   rw [(show serve f [] = (f, [], []) from rfl)] at hs2
   refine bodyPost_ret (v := .tuple #[.agg #[.int .i64 f, .int .i64 x.limit, .slice aq 0 cq], .slice ag ng cg]) (by simp [results, Try.results71, go_sem, r0, r1, r2]) rfl ⟨⟨f, x.limit, []⟩, ⟨aq, 0, cq⟩, ⟨ag, ng, cg⟩, by rw [hs2.1, hs2.2.2], rfl, ⟨hql.out.symm, hsn.rd, hsn.new, hsn.cap, hsn.ty⟩, ?_, .inr (fun q hq hu => owns_owns hq4 hg4 (by decide) q hq hu), hb.out.trans hBz⟩
   rw [hs2.2.1, List.append_nil]
   exact owns_mono hg4 (by omega)
  | cons y q' =>
   obtain ⟨t1, m1⟩ := y
   have hpos : 0 < mq := by have := hql.out; rw [List.length_cons] at this; omega
   obtain ⟨g, rfl, hgB, hgS⟩ := owns_at hq.out hpos
   have g0 : wr.cell? ⟨g, 0, none⟩ = some (.int .i64 t1) := by rw [hq.out.cellAt 0 (by omega)]; rfl
   have g1 : wr.cell? ⟨g, 1, none⟩ = some (.int .i64 m1) := by rw [hq.out.cellAt 1 (by omega)]; rfl
   have hm := hqc.out (t1, m1) (List.mem_cons_self ..)
   have j0 : (0 : Int) < (mq : Int) := by omega
   have j1 : decide ((0 : Int) < (mq : Int)) = true := decide_eq_true j0
   by_cases hle : m1 ≤ f
   ·have d1 : decide (m1 ≤ f) = true := decide_eq_true hle
    have HSV : Hid (serve f ((t1, m1) :: q') = ((serve (f - m1) q').1, t1 :: (serve (f - m1) q').2.1, (serve (f - m1) q').2.2)) := xH1 (by rw [serve, if_pos hle])
    have HKO := xH1 kO
    have HKR := xH1 kR
    clear kO kR
    go_wp2
    go_quiet (fail)
    go_wp2
    obtain ⟨WD, hWD⟩ : ∃ WD : World, WD = wr.drewN nq := ⟨_, rfl⟩
    rw [← hWD]
    have bD : Below wr.heap.size wr WD := by rw [hWD]; exact below_drewN' _ _
    replace o0 := keepc bD o0
    replace o2 := keepc bD o2
    replace g0 := keepc bD g0
    replace g1 := keepc bD g1
    have hSD := bD.size
    have HBD := xH1 (hb.out.trans (bD.mono hb.out.size))
    have HKOD := xH1 (HKO.out.below bD)
    have HKRD := xH1 (HKR.out.below bD)
    have HQD := xH1 (owns_below hq.out bD)
    have HGD := xH1 (owns_below hg.out bD)
    clear hWD bD o1 oz0 oz1 oz2 r0 rz0 r1 rz1 r2 rz2 HKO HKR
    have hf1 := hf.out.1
    have hf2 := hf.out.2
    have hm1 := hm.1
    refine wp_region_fresh 9 (by kernel_rfl) (by kernel_rfl) [fun dz uz wz => uz = .pointer (some ⟨wc.heap.size, 0, none⟩), fun dz uz wz => uz = .int .i64 f, fun dz uz wz => uz = .pointer (some ⟨wc.heap.size, 2, none⟩), fun dz uz wz => uz = .slice (some ⟨g, 0, none⟩) mq cq, fun dz uz wz => uz = .pointer (some ⟨g, 0, none⟩), fun dz uz wz => uz = .pointer (some ⟨g, 1, none⟩), fun dz uz wz => uz = .int .i64 m1, fun dz uz wz => uz = .int .i64 (f - m1), fun dz uz wz => uz = .pointer (some ⟨wc.heap.size, 0, none⟩)] (fun i => match i with | _ => fun _ => none) (fun w' => Below WD.heap.size WD w') xB1.drew (stab_of ⟨fun _ _ _ _ _ h => h, fun _ _ _ _ _ h => h, fun _ _ _ _ _ h => h, fun _ _ _ _ _ h => h, fun _ _ _ _ _ h => h, fun _ _ _ _ _ h => h, fun _ _ _ _ _ h => h, fun _ _ _ _ _ h => h, fun _ _ _ _ _ h => h, trivial⟩) ?_ ?_
    ·simp only [List.take_succ_cons, List.take_zero]
     refine ⟨?_, ?_, ?_, ?_, ?_, ?_, ?_, ?_, ?_, trivial⟩
     ·intro ρ w1 hG hfr hd
      obtain ⟨fc, ff⟩ := xF1 hfr
      have f4 : ρ (.tmp 4) = .pointer (some ⟨wc.heap.size, 0, none⟩) := hfr _ rfl
      refine gives_val (u := .pointer (some ⟨wc.heap.size, 0, none⟩)) (w' := w1) (by go_simp) ⟨Below.refl _ _, rfl, xN1, hG⟩
     ·intro ρ w1 hG hfr hd
      obtain ⟨fc, ff⟩ := xF1 hfr
      obtain ⟨d0, -⟩ := hd
      have d0 : (ρ (.tmp 23)) = .pointer (some ⟨wc.heap.size, 0, none⟩) := d0
      have o0 := keepc hG o0
      refine gives_val (u := .int .i64 f) (w' := w1) (by go_simp) ⟨Below.refl _ _, rfl, xN1, hG⟩
     ·intro ρ w1 hG hfr hd
      obtain ⟨fc, ff⟩ := xF1 hfr
      have f4 : ρ (.tmp 4) = .pointer (some ⟨wc.heap.size, 0, none⟩) := hfr _ rfl
      refine gives_val (u := .pointer (some ⟨wc.heap.size, 2, none⟩)) (w' := w1) (by go_simp) ⟨Below.refl _ _, rfl, xN1, hG⟩
     ·intro ρ w1 hG hfr hd
      obtain ⟨fc, ff⟩ := xF1 hfr
      obtain ⟨d0, -⟩ := hd
      have d0 : (ρ (.tmp 25)) = .pointer (some ⟨wc.heap.size, 2, none⟩) := d0
      have o2 := keepc hG o2
      refine gives_val (u := .slice (some ⟨g, 0, none⟩) mq cq) (w' := w1) (by go_simp) ⟨Below.refl _ _, rfl, xN1, hG⟩
     ·intro ρ w1 hG hfr hd
      obtain ⟨fc, ff⟩ := xF1 hfr
      obtain ⟨d0, -⟩ := hd
      have d0 : (ρ (.tmp 26)) = .slice (some ⟨g, 0, none⟩) mq cq := d0
      refine gives_val (u := .pointer (some ⟨g, 0, none⟩)) (w' := w1) (by go_simp) ⟨Below.refl _ _, rfl, xN1, hG⟩
     ·intro ρ w1 hG hfr hd
      obtain ⟨fc, ff⟩ := xF1 hfr
      obtain ⟨d0, -⟩ := hd
      have d0 : (ρ (.tmp 27)) = .pointer (some ⟨g, 0, none⟩) := d0
      refine gives_val (u := .pointer (some ⟨g, 1, none⟩)) (w' := w1) (by go_simp) ⟨Below.refl _ _, rfl, xN1, hG⟩
     ·intro ρ w1 hG hfr hd
      obtain ⟨fc, ff⟩ := xF1 hfr
      obtain ⟨d0, -⟩ := hd
      have d0 : (ρ (.tmp 28)) = .pointer (some ⟨g, 1, none⟩) := d0
      have g1 := keepc hG g1
      refine gives_val (u := .int .i64 m1) (w' := w1) (by go_simp) ⟨Below.refl _ _, rfl, xN1, hG⟩
     ·intro ρ w1 hG hfr hd
      obtain ⟨fc, ff⟩ := xF1 hfr
      obtain ⟨d0, d1, -⟩ := hd
      have d0 : (ρ (.tmp 24)) = .int .i64 f := d0
      have d1 : (ρ (.tmp 29)) = .int .i64 m1 := d1
      refine gives_val (u := .int .i64 (f - m1)) (w' := w1) (by go_simp; exact Go.IntWalk.i64_in _ (by omega)) ⟨Below.refl _ _, rfl, xN1, hG⟩
     ·intro ρ w1 hG hfr hd
      obtain ⟨fc, ff⟩ := xF1 hfr
      have f4 : ρ (.tmp 4) = .pointer (some ⟨wc.heap.size, 0, none⟩) := hfr _ rfl
      refine gives_val (u := .pointer (some ⟨wc.heap.size, 0, none⟩)) (w' := w1) (by go_simp) ⟨Below.refl _ _, rfl, xN1, hG⟩
    intro vs w2 hG hlen hall hap hbd
    obtain ⟨xv0, vs0, rfl, hl0⟩ := len_cons hlen
    obtain ⟨xv1, vs1, rfl, hl1⟩ := len_cons hl0
    obtain ⟨xv2, vs2, rfl, hl2⟩ := len_cons hl1
    obtain ⟨xv3, vs3, rfl, hl3⟩ := len_cons hl2
    obtain ⟨xv4, vs4, rfl, hl4⟩ := len_cons hl3
    obtain ⟨xv5, vs5, rfl, hl5⟩ := len_cons hl4
    obtain ⟨xv6, vs6, rfl, hl6⟩ := len_cons hl5
    obtain ⟨xv7, vs7, rfl, hl7⟩ := len_cons hl6
    obtain ⟨xv8, vs8, rfl, hl8⟩ := len_cons hl7
    obtain rfl := len_nil hl8
    clear hlen hl0 hl1 hl2 hl3 hl4 hl5 hl6 hl7 hl8
    simp only [List.take_succ_cons, List.take_zero, List.drop_succ_cons, List.drop_zero] at hall ⊢
    obtain ⟨t0', t1', t2', t3', t4', t5', t6', t7', t8', -⟩ := hall
    have hv0 : xv0 = .pointer (some ⟨wc.heap.size, 0, none⟩) := t0'
    have hv1 : xv1 = .int .i64 f := t1'
    have hv2 : xv2 = .pointer (some ⟨wc.heap.size, 2, none⟩) := t2'
    have hv3 : xv3 = .slice (some ⟨g, 0, none⟩) mq cq := t3'
    have hv4 : xv4 = .pointer (some ⟨g, 0, none⟩) := t4'
    have hv5 : xv5 = .pointer (some ⟨g, 1, none⟩) := t5'
    have hv6 : xv6 = .int .i64 m1 := t6'
    have hv7 : xv7 = .int .i64 (f - m1) := t7'
    have hv8 : xv8 = .pointer (some ⟨wc.heap.size, 0, none⟩) := t8'
    clear t0' t1' t2' t3' t4' t5' t6' t7' t8'
    clear hap hbd
    subst hv0 hv1 hv2 hv3 hv4 hv5 hv6 hv7 hv8
    simp only [putAll, Act.put, List.setIfInBounds_toArray, List.set_cons_succ, List.set_cons_zero]
    have kO2 := HKOD.out.below hG
    have kR2 := HKRD.out.below hG
    have ozz := kO2.fz 0
    have ozc := kO2.cell 0 rfl
    have kO3 := kO2.set 0 (.int .i64 (f - m1))
    have kR3 := kR2.other ⟨wc.heap.size, 0, none⟩ (.int .i64 (f - m1)) hne0
    have hT1 := (Touch.refl [wc.heap.size] w2).set (v := .int .i64 (f - m1)) (b := wc.heap.size) (j := 0) (by simp)
    have hq2 := owns_below HQD.out hG
    have hg2 := owns_below HGD.out hG
    have hnq := blk_owns kO2 hq2 (by decide : (79 : TypeId) ≠ 132)
    have hng := blk_owns kO2 hg2 (by decide : (79 : TypeId) ≠ 3)
    have hq3 := owns_touch hq2 hT1 (fun q hq' hm => by simp only [List.mem_singleton] at hm; exact hnq (by rw [hq', hm]))
    have hg3 := owns_touch hg2 hT1 (fun q hq' hm => by simp only [List.mem_singleton] at hm; exact hng (by rw [hq', hm]))
    have hB3 := (HBD.out.trans (hG.mono HBD.out.size)).trans (hT1.below (B := w.heap.size) (by have := hG.size; have := HBD.out.size; omega) (fun k hk => by simp only [List.mem_singleton] at hk; omega))
    obtain ⟨WE, hWE⟩ : ∃ WE : World, WE = (w2.setCell ⟨wc.heap.size, 0, none⟩ (.int .i64 (f - m1))) := ⟨_, rfl⟩
    rw [← hWE] at kO3 kR3 hq3 hg3 hB3
    have hSE : W0.heap.size ≤ WE.heap.size := by have := kO3.lt; omega
    have p2 := kO3.cell 2 rfl
    have e0 := hq3.cellAt 0 (by omega)
    have e1 := hq3.cellAt 1 (by omega)
    replace e0 : WE.cell? ⟨g, 0, none⟩ = some (.int .i64 t1) := by rw [e0]; rfl
    replace e1 : WE.cell? ⟨g, 1, none⟩ = some (.int .i64 m1) := by rw [e1]; rfl
    have hcap := (owns_cap hq3).1
    have u1 : (1 : Int) ≤ (mq : Int) := by omega
    have u2 : (mq : Int) ≤ (cq : Int) := by omega
    have u3 : (1 : Int) ≤ (cq : Int) := by omega
    obtain ⟨A, hA⟩ : ∃ A : Addr, (if cq = 1 then (⟨g, 0, none⟩ : Addr) else ⟨g, 2, none⟩) = A := ⟨_, rfl⟩
    have hsl : ∀ W : World, (Instr.slice 77 (.slice (some ⟨g, 0, none⟩) mq cq) (some (.int .i64 1)) none none).run Try.prog W = .ok (.slice (some A) (mq - 1) (cq - 1)) W := fun W => by
     go_simp
     rw [← hA]
     split <;> rfl
    have hrt : Hid (∀ W : World, Rd W (some ⟨g, 0, none⟩) (pairs ((t1, m1) :: q')) → Rd W (some A) (pairs q')) := xH1 (fun W h => by
     rcases h with h | ⟨b, o, e, h⟩
     ·simp [pairs, pair] at h
     ·obtain ⟨rfl, rfl⟩ : g = b ∧ 0 = o := by simpa using e
      by_cases hc1 : cq = 1
      ·have hq0 : q' = [] := List.eq_nil_of_length_eq_zero (by have := hql.out; rw [List.length_cons] at this; omega)
       exact .inl (by rw [hq0]; rfl)
      ·rw [if_neg hc1] at hA
       exact .inr ⟨g, 2, by rw [← hA], fun j hj => by
        have := h (2 + j) (by rw [pairs_len, List.length_cons]; rw [pairs_len] at hj; omega)
        rw [Nat.zero_add] at this
        rw [this]
        congr 1
        show (pair (t1, m1) ++ pairs q').getD (2 + j) undef = _
        rw [List.getD_eq_getElem?_getD, List.getElem?_append_right (by rw [pair_len]; omega), pair_len, show 2 + j - 2 = j by omega, ← List.getD_eq_getElem?_getD]⟩)
    have hql' : q'.length = mq - 1 := by have := hql.out; rw [List.length_cons] at this; omega
    have HQL := xH1 hql'
    have HL5 : Hid ((pairs q').length = (mq - 1) * 2) := xH1 (by rw [pairs_len, hql'])
    have one5 : ∀ u ∈ pairs q', u.oneCell' = true := pairs_one _
    have HKO3 := xH1 kO3
    have HKR3 := xH1 kR3
    have HQ3 := xH1 hq3
    have HG3 := xH1 hg3
    have HB3 := xH1 hB3
    subst hWE
    clear o0 o2 g0 g1 hcap hql' kO2 kR2 kO3 kR3 hq2 hg2 hq3 hg3 hB3 hT1 hG hnq hng HKOD HKRD HQD HGD HBD
    go_wp2_with (at_builtin; first | (refine wpList_append_sl (m := 1) (cm := 1) (news := [.int .i64 t1]) rfl _ _ 23 rfl Try.underlying23 info_int rfl (by decide) rfl HG3.out (by show Value.slice (some ⟨w2.heap.size, 0, none⟩) 1 1 = _; simp) rfl rfl (by simp [Value.oneCell']) (by omega) (by decide) hSE ?_; intro ag4 cg4 w4 hg4 hgr4; have kO4 := HKO3.out.grown hgr4 (blk_owns HKO3.out HG3.out (by decide : (79 : TypeId) ≠ 3)); have kR4 := HKR3.out.grown hgr4 (blk_owns HKR3.out HG3.out (by decide : (79 : TypeId) ≠ 3)); have hq4 := owns_grown HQ3.out hgr4 (owns_owns HQ3.out HG3.out (by decide : (132 : TypeId) ≠ 3)); have hB4 := HB3.out.trans (below_of_grown hgr4 (by omega) (fun q hq' => by have := (owns_row HG3.out q hq').1; omega)); have bE : Below w4.heap.size w4 (w4.alloc (.cells #[] 132)) := xA1; have p4 := (kO4.below bE).cell 2 rfl; have HKO4 := xH1 kO4; have HKR4 := xH1 kR4; have HQ4 := xH1 hq4; have HG4 := xH1 hg4; have HB4 := xH1 hB4; have hS4 := hgr4.size; have hr4 := hrt.out _ ((Rd.of_owns hq4).below bE); clear p2 e0 e1 ozz ozc kO4 kR4 hq4 hg4 hB4 bE hgr4) | (refine wpList_append_rd (news := pairs q') rfl _ _ 77 rfl Try.underlying77 info_way rfl (by decide) rfl (owns_empty w4 132 2) rfl HL5.out hr4 one5 (by omega) (by decide) (by simp) ?_; intro aq5 cq5 w5 hq5 hgr5; rw [Nat.zero_add, List.nil_append] at hq5; have hl4 := HKO4.out.lt; have hl5 := HKR4.out.lt; have kO5 := (HKO4.out.alloc (.cells #[] 132)).grown hgr5 (fun e => by simp only [rowOf, Option.some.injEq] at e; omega); have kR5 := (HKR4.out.alloc (.cells #[] 132)).grown hgr5 (fun e => by simp only [rowOf, Option.some.injEq] at e; omega); have hg5 := owns_grown (owns_below HG4.out (xB1.alloc xL1 (.cells #[] 132))) hgr5 (fun q hq' e => by have := (owns_row HG4.out q hq').2; simp only [rowOf, Option.some.injEq] at e; omega); have hB5 := (HB4.out.alloc HB4.out.size (.cells #[] 132)).trans (below_of_grown hgr5 (by have := HB4.out.size; simp; omega) (fun q hq' => by have := HB4.out.size; simp only [rowOf, Option.some.injEq] at hq'; omega)); have oz5 := kO5.fz 2; have oc5 := kO5.cell 2 rfl; have HKO5 := xH1 kO5; have HKR5 := xH1 kR5; have HQ5 := xH1 hq5; have HG5 := xH1 hg5; have HB5 := xH1 hB5; clear p4 hr4 kO5 kR5 hq5 hg5 hB5 hgr5))
    have hT5 := (Touch.refl [wc.heap.size] w5).set (v := .slice aq5 (mq - 1) cq5) (b := wc.heap.size) (j := 2) (by simp)
    have hq6 := owns_touch HQ5.out hT5 (fun q hq' hm => by simp only [List.mem_singleton] at hm; exact blk_owns HKO5.out HQ5.out (by decide : (79 : TypeId) ≠ 132) (by rw [hq', hm]))
    have hg6 := owns_touch HG5.out hT5 (fun q hq' hm => by simp only [List.mem_singleton] at hm; exact blk_owns HKO5.out HG5.out (by decide : (79 : TypeId) ≠ 3) (by rw [hq', hm]))
    have hS5 : W0.heap.size ≤ w4.heap.size := Nat.le_trans hSE hS4
    go_roundw
    case rel => exact ⟨f - m1, q', got ++ [t1], aq5, ag4, mq - 1, cq5, ng + 1, cg4, rfl, by omega, by omega, xH1 ⟨by omega, by omega⟩, HQL, xH1 (fun y hy => hqc.out y (List.mem_cons_of_mem _ hy)), xH1 (by have h2 := hsv.out; rw [HSV.out] at h2; exact ⟨h2.1, by rw [h2.2.1]; simp, h2.2.2⟩), HKO5.out.set 2 _, HKR5.out.other ⟨wc.heap.size, 2, none⟩ _ hne0, xH1 (owns_mono hq6 hS5), xH1 (by simpa [ints] using hg6), xH1 (HB5.out.trans (hT5.below (B := w.heap.size) HB5.out.size (fun k hk => by simp only [List.mem_singleton] at hk; omega)))⟩
    case measure => simp; omega
   ·have d1 : decide (m1 ≤ f) = false := decide_eq_false hle
    have HSV : Hid (serve f ((t1, m1) :: q') = (f, [], (t1, m1) :: q')) := xH1 (by unfold serve; rw [if_neg hle])
    clear hle kO kR
    go_wp2
    go_quiet (fail)
    go_wp2
    have hT := ((((Touch.of_below (S := [w.heap.size + 1]) (below_drewN' (B := wr.heap.size) wr nq)).set (v := .int .i64 f) (b := w.heap.size + 1) (j := 0) (by simp)).set (v := .int .i64 x.limit) (b := w.heap.size + 1) (j := 1) (by simp)).set (v := .slice (some ⟨g, 0, none⟩) mq cq) (b := w.heap.size + 1) (j := 2) (by simp))
    have hBz := hT.below (B := w.heap.size) hb.out.size (fun k hk => by simp only [List.mem_singleton] at hk; omega)
    have hq4 := owns_touch hq.out hT (fun q hq' hm => by have := (owns_row hq.out q hq').1; simp only [List.mem_singleton] at hm; omega)
    have hg4 := owns_touch hg.out hT (fun q hq' hm => by have := (owns_row hg.out q hq').1; simp only [List.mem_singleton] at hm; omega)
    have hsn := SlN.of_owns (w0 := w) hq4 (by omega)
    have hs2 := hsv.out
    rw [HSV.out] at hs2
    refine bodyPost_ret (v := .tuple #[.agg #[.int .i64 f, .int .i64 x.limit, .slice (some ⟨g, 0, none⟩) mq cq], .slice ag ng cg]) (by simp [results, Try.results71, go_sem, r0, r1, r2]) rfl ⟨⟨f, x.limit, ((t1, m1) :: q')⟩, ⟨(some ⟨g, 0, none⟩), mq, cq⟩, ⟨ag, ng, cg⟩, by rw [hs2.1, hs2.2.2], rfl, ⟨hql.out.symm, hsn.rd, hsn.new, hsn.cap, hsn.ty⟩, ?_, .inr (fun q hq hu => owns_owns hq4 hg4 (by decide) q hq hu), hb.out.trans hBz⟩
    rw [hs2.2.1, List.append_nil]
    exact owns_mono hg4 (by omega)
theorem specRelease_ok (x : SemD) (a : Option Addr) (n c : Nat) (m : Int) (w : World) (hl : x.queue.length = n) (hr : Rd w a (pairs x.queue)) (ok : semOk x) (hm : 1 ≤ m ∧ m ≤ 9) :
  Calls Try.prog 49 #[.agg #[.int .i64 x.free, .int .i64 x.limit, .slice a n c], .int .i64 m] w fun e w' => ∃ (y : SemD) (s u : SlV) (l : List Int) (b : Bool), semRel x m = (if b = true then some (y, l) else none) ∧ e = .returned (.tuple #[semV y s, u.val, .bool b]) ∧ SlN w w' s (pairs y.queue) y.queue.length ∧ w'.ownsRow w.heap.size 3 1 u.val u.n (ints l) ∧ (pairs y.queue = [] ∨ ∀ q, rowOf s.a = some q → rowOf u.a ≠ some q) ∧ Below w.heap.size w w' := by
 have h6 : n ≤ 6 := by rw [← hl]; simpa using ok.2.2.2.1.1
 have d1 : decide (m < 1) = false := decide_eq_false (by omega)
 have HL := xH1 hl
 have HOK := xH1 ok
 have f1 := ok.2.1.1
 have f2 := ok.2.1.2
 have f3 := ok.1.2
 have hm1 := hm.1
 have hm2 := hm.2
 clear hl ok hm
 obtain ⟨W0, hW0⟩ : ∃ W0 : World, W0 = ((w.alloc (.cells #[.int .i64 x.free, .int .i64 x.limit, .slice a n c] 79)).alloc (.cells #[.int .i64 0, .int .i64 0, .slice none 0 0] 79)) := ⟨_, rfl⟩
 have B0 : Below w.heap.size w W0 := by
  rw [hW0]
  exact ((xB1.alloc (by simp) _).alloc (by simp) _)
 have kS : Blk W0 (w.heap.size) #[.int .i64 x.free, .int .i64 x.limit, .slice a n c] 79 := by
  rw [hW0]
  have h := Blk.new w #[.int .i64 x.free, .int .i64 x.limit, .slice a n c] 79
  exact h |>.alloc _
 have kR : Blk W0 (w.heap.size + 1) #[.int .i64 0, .int .i64 0, .slice none 0 0] 79 := by
  rw [hW0]
  have h := Blk.new (w.alloc (.cells #[.int .i64 x.free, .int .i64 x.limit, .slice a n c] 79)) #[.int .i64 0, .int .i64 0, .slice none 0 0] 79
  simp only [World.size_alloc] at h
  exact h
 have hS0 : W0.heap.size = w.heap.size + 2 := by rw [hW0]; simp
 have HR := xH1 (hr.below B0)
 have HB := xH1 B0
 clear hr B0
 have q0 := kS.cell 0 rfl
 have q1 := kS.cell 1 rfl
 have q2 := kS.cell 2 rfl
 by_cases hif : m ≤ x.limit - x.free
 ·have d2 : decide (x.limit - x.free < m) = false := decide_eq_false (by omega)
  have HV : Hid (semRel x m = some (⟨(serve (x.free + m) x.queue).1, x.limit, (serve (x.free + m) x.queue).2.2⟩, (serve (x.free + m) x.queue).2.1)) := xH1 (by unfold semRel; rw [if_pos hif])
  go_enter Try.func49, Try.ntmps49
  go_wp2_with fail
  rw [← hW0]
  clear hW0
  refine (specSemValid_ok x a n c _ HL.out HR.out HOK.out).mono ?_
  rintro e w1 ⟨rfl, hb⟩
  replace q0 := keepc hb q0
  replace q1 := keepc hb q1
  replace q2 := keepc hb q2
  replace kR := kR.below hb
  have HB1 := xH1 (HB.out.trans (hb.mono HB.out.size))
  have HR1 := xH1 (HR.out.below hb)
  have hRlt := kR.lt
  clear hb HR kS
  go_wp2_with fail
  refine (specSemCopy_any x a n c _ HL.out (by omega) HR1.out).mono ?_
  rintro e wc ⟨a2, c2, rfl, hown, hb⟩
  have HB2 := xH1 (HB1.out.trans (hb.mono HB1.out.size))
  replace kR := kR.below hb
  have hS2 := hb.size
  obtain ⟨WA, hWA⟩ : ∃ WA : World, WA = wc.alloc (.cells #[.int .i64 (x.free + m), .int .i64 x.limit, .slice a2 n c2] 79) := ⟨_, rfl⟩
  have bA : Below wc.heap.size wc WA := by rw [hWA]; exact xA1
  have kO : Blk WA wc.heap.size #[.int .i64 (x.free + m), .int .i64 x.limit, .slice a2 n c2] 79 := by rw [hWA]; exact Blk.new _ _ _
  replace kR := kR.below bA
  have HOWN := xH1 (owns_below hown bA)
  have HBA := xH1 (HB2.out.trans (bA.mono HB2.out.size))
  have oo0 : (wc.alloc (.cells #[.int .i64 x.free, .int .i64 x.limit, .slice a2 n c2] 79)).cell? ⟨wc.heap.size, 0, none⟩ = some (.int .i64 x.free) := (Blk.new _ _ _).cell 0 rfl
  have oz0 : (wc.alloc (.cells #[.int .i64 x.free, .int .i64 x.limit, .slice a2 n c2] 79)).frozen? ⟨wc.heap.size, 0, none⟩ = false := (Blk.new _ _ _).fz 0
  have o0 := kO.cell 0 rfl
  have o1 := kO.cell 1 rfl
  have o2 := kO.cell 2 rfl
  have HKR := xH1 kR
  clear hb hown bA HR1 q0 q1 q2 kO kR
  subst hWA
  go_wp2_with fail
  obtain ⟨WA, hWA⟩ : ∃ WA : World, WA = wc.alloc (.cells #[.int .i64 (x.free + m), .int .i64 x.limit, .slice a2 n c2] 79) := ⟨_, rfl⟩
  rw [← hWA] at HOWN HKR HBA ⊢
  clear hWA o0 o1 o2 oo0 oz0
  refine (specServe_any ⟨x.free + m, x.limit, x.queue⟩ a2 n c2 _ HL.out h6 (Rd.of_owns HOWN.out) ⟨by show 0 ≤ x.free + m; omega, by show x.free + m ≤ 9; omega⟩ (fun y hy => by have h1 := (HOK.out.2.2.1 y hy); omega)).mono ?_
  rintro e w3 ⟨y, s, u, rfl, rfl, hs, hu, hap, hb⟩
  have hS3 := HBA.out.size
  obtain ⟨sa, sn, sc⟩ := s
  obtain ⟨ua, un, uc⟩ := u
  dsimp only [SlV.val] at hu
  have HB3 := xH1 (HBA.out.trans (hb.mono HBA.out.size))
  have kR3 := HKR.out.below hb
  have HS := xH1 hs
  have hRA := HKR.out.lt
  have HU := xH1 hu
  have HAP := xH1 hap
  clear hs hu hb HKR HOWN hap
  obtain ⟨fr, hfr⟩ : ∃ fr, fr = (serve (x.free + m) x.queue).1 := ⟨_, rfl⟩
  dsimp only [semV, SlV.val]
  dsimp only at HS HU HAP
  rw [← hfr] at HV ⊢
  have bF : Below w3.heap.size w3 (w3.alloc (.cells #[.int .i64 fr, .int .i64 x.limit, .slice sa sn sc] 79)) := xA1
  have kR4 := kR3.below bF
  have r0 := kR4.cell 0 rfl
  have r1 := kR4.cell 1 rfl
  have r2 := kR4.cell 2 rfl
  have rz0 := kR4.fz 0
  have rz1 := kR4.fz 1
  have rz2 := kR4.fz 2
  have HSF := xH1 (HS.out.below bF)
  have HUF := xH1 (owns_below HU.out bF)
  have HBF := xH1 (HB3.out.trans (bF.mono HB3.out.size))
  clear kR3 kR4 bF hfr HS HU
  go_wp2
  have hT := (((Touch.refl [w.heap.size + 1] (w3.alloc (.cells #[.int .i64 fr, .int .i64 x.limit, .slice sa sn sc] 79))).set (v := .int .i64 fr) (b := w.heap.size + 1) (j := 0) (by simp)).set (v := .int .i64 x.limit) (b := w.heap.size + 1) (j := 1) (by simp)).set (v := .slice sa sn sc) (b := w.heap.size + 1) (j := 2) (by simp)
  have hBz := hT.below (B := w.heap.size) HBF.out.size (fun k hk => by simp only [List.mem_singleton] at hk; omega)
  have hu4 := owns_touch HUF.out hT (fun q hq' hm => by have := (owns_row HUF.out q hq').1; simp only [List.mem_singleton] at hm; omega)
  refine bodyPost_ret (v := .tuple #[.agg #[.int .i64 fr, .int .i64 x.limit, .slice sa sn sc], .slice ua un uc, .bool true]) (by simp [results, Try.results49, go_sem, r0, r1, r2]) rfl ⟨⟨fr, x.limit, (serve (x.free + m) x.queue).2.2⟩, ⟨sa, sn, sc⟩, ⟨ua, un, uc⟩, _, true, HV.out, rfl, ?_, owns_mono hu4 hS3, HAP.out, HBF.out.trans hBz⟩
  exact (HSF.out.touch hT (by intro b hb; simp only [List.mem_singleton] at hb; omega)).mono hS3
 ·have d2 : decide (x.limit - x.free < m) = true := decide_eq_true (by omega)
  have HV : Hid (semRel x m = none) := xH1 (by unfold semRel; rw [if_neg hif])
  go_enter Try.func49, Try.ntmps49
  go_wp2_with fail
  rw [← hW0]
  clear hW0
  refine (specSemValid_ok x a n c _ HL.out HR.out HOK.out).mono ?_
  rintro e w1 ⟨rfl, hb⟩
  replace q0 := keepc hb q0
  replace q1 := keepc hb q1
  replace q2 := keepc hb q2
  replace kR := kR.below hb
  have HB1 := xH1 (HB.out.trans (hb.mono HB.out.size))
  have HR1 := xH1 (HR.out.below hb)
  have hRlt := kR.lt
  clear hb HR kS
  have kR2 := kR.alloc (.cells #[] 3)
  have r0 := kR2.cell 0 rfl
  have r1 := kR2.cell 1 rfl
  have r2 := kR2.cell 2 rfl
  have rz0 := kR2.fz 0
  have rz1 := kR2.fz 1
  have rz2 := kR2.fz 2
  have bE : Below w1.heap.size w1 (w1.alloc (.cells #[] 3)) := xA1
  have HBE := xH1 (HB1.out.trans (bE.mono HB1.out.size))
  have HRL := xH1 hRlt
  clear kR kR2 bE HR1 hRlt
  go_wp2
  have hRlt := HRL.out
  have hT := (((Touch.refl [w.heap.size + 1] (w1.alloc (.cells #[] 3))).set (v := .int .i64 0) (b := w.heap.size + 1) (j := 0) (by simp)).set (v := .int .i64 0) (b := w.heap.size + 1) (j := 1) (by simp)).set (v := .slice none 0 0) (b := w.heap.size + 1) (j := 2) (by simp)
  have hBz := hT.below (B := w.heap.size) HBE.out.size (fun k hk => by simp only [List.mem_singleton] at hk; omega)
  have hu4 := owns_touch (owns_empty w1 3 1) hT (fun q hq' hm => by simp only [rowOf, Option.some.injEq] at hq'; simp only [List.mem_singleton] at hm; omega)
  refine bodyPost_ret (v := .tuple #[.agg #[.int .i64 0, .int .i64 0, .slice none 0 0], .slice (some ⟨w1.heap.size, 0, none⟩) 0 0, .bool false]) (by simp [results, Try.results49, go_sem, r0, r1, r2]) rfl ⟨noSem, nilV, ⟨some ⟨w1.heap.size, 0, none⟩, 0, 0⟩, [], false, HV.out, rfl, SlN.nil _ _, owns_mono hu4 (by omega), .inl rfl, HBE.out.trans hBz⟩
end Go.Proofs.Ytfpgijihiifogaa
