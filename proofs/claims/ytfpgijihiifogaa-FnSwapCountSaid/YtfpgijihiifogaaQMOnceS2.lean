/- Part of a proof: MOnceS2. -/
import Derived.Test.YtfpgijihiifogaaQPOnce
set_option maxRecDepth 100000
set_option maxHeartbeats 16000000
namespace Go.Proofs.Ytfpgijihiifogaa
open Go.RowKit
theorem specEnterOnce_ok (x : OnceD) (a : Option Addr) (n c : Nat) (t : Int) (w : World) (hl : x.waits.length = n) (hc : n ≤ c) (hr : Rd w a (ints x.waits)) (ok : onceOk x) (ht : 0 ≤ t ∧ t < 6) (hno : x.state = 1 → t ≠ x.owner ∧ t ∉ x.waits) :
  Calls Try.prog 73 #[.agg #[.int .i64 x.state, .int .i64 x.owner, .int .i64 x.value, .slice a n c], .int .i64 t] w fun e w' => ∃ (y : OnceD) (s : SlV), y = onceEnter x t ∧ e = .returned (.tuple #[onceV y s, .int .i64 x.state, .bool true]) ∧ SlN w w' s (ints y.waits) y.waits.length ∧ Below w.heap.size w w' := by
 obtain ⟨st, ow, va, ws⟩ := x
 have ok0 := ok
 dsimp only at hl hr hno
 rcases ok with ⟨h1, h2, h3, h4⟩ | ⟨h1, h2, h3, h4, h5⟩ | ⟨h1, h2, h3, h4⟩
 ·dsimp only at h1 h2 h3 h4
  subst h1 h2 h3 h4
  obtain rfl : 0 = n := by simpa using hl
  have HL := xH1 hl
  have HOK := xH1 ok0
  clear hl ok0
  obtain ⟨W0, hW0⟩ : ∃ W0 : World, W0 = ((w.alloc (.cells #[.int .i64 0, .int .i64 0, .int .i64 0, .slice a 0 c] 83)).alloc (.cells #[.int .i64 0, .int .i64 0, .int .i64 0, .slice none 0 0] 83)) := ⟨_, rfl⟩
  have B0 : Below w.heap.size w W0 := by
   rw [hW0]
   exact ((xB1.alloc (by simp) _).alloc (by simp) _)
  have kS : Blk W0 (w.heap.size) #[.int .i64 0, .int .i64 0, .int .i64 0, .slice a 0 c] 83 := by
   rw [hW0]
   have h := Blk.new w #[.int .i64 0, .int .i64 0, .int .i64 0, .slice a 0 c] 83
   exact h |>.alloc _
  have kR : Blk W0 (w.heap.size + 1) #[.int .i64 0, .int .i64 0, .int .i64 0, .slice none 0 0] 83 := by
   rw [hW0]
   have h := Blk.new (w.alloc (.cells #[.int .i64 0, .int .i64 0, .int .i64 0, .slice a 0 c] 83)) #[.int .i64 0, .int .i64 0, .int .i64 0, .slice none 0 0] 83
   simp only [World.size_alloc] at h
   exact h
  have hS0 : W0.heap.size = w.heap.size + 2 := by rw [hW0]; simp
  have HR := xH1 (hr.below B0)
  have HB := xH1 B0
  clear hr B0
  have q0 := kS.cell 0 rfl
  have q1 := kS.cell 1 rfl
  have q2 := kS.cell 2 rfl
  have q3 := kS.cell 3 rfl
  go_enter Try.func73, Try.ntmps73
  go_wp2_with fail
  rw [← hW0]
  clear hW0
  refine (specOnceValid_ok ⟨0, 0, 0, []⟩ a 0 c _ HL.out hc HR.out HOK.out).mono ?_
  rintro e w1 ⟨rfl, hb⟩
  replace q0 := keepc hb q0
  replace q1 := keepc hb q1
  replace q2 := keepc hb q2
  replace q3 := keepc hb q3
  replace kR := kR.below hb
  have HB1 := xH1 (HB.out.trans (hb.mono HB.out.size))
  have HR1 := xH1 (HR.out.below hb)
  have hR1 := kR.lt
  clear hb HR kS
  go_wp2_with fail
  refine (specThread_ok t _ ht).mono ?_
  rintro e w3 ⟨rfl, hw3⟩
  have hw3' := hw3.symm
  subst hw3'
  go_wp2_with fail
  refine (specOnceCopy_any ⟨0, 0, 0, []⟩ a 0 c _ HL.out (by omega) HR1.out).mono ?_
  rintro e wc ⟨a2, c2, rfl, hown, hb⟩
  dsimp only at hown
  have HB2 := xH1 (HB1.out.trans (hb.mono HB1.out.size))
  replace q0 := keepc hb q0
  replace q1 := keepc hb q1
  replace q2 := keepc hb q2
  replace q3 := keepc hb q3
  replace kR := kR.below hb
  have kR0 := kR
  have hS2 := hb.size
  obtain ⟨WA, hWA⟩ : ∃ WA : World, WA = wc.alloc (.cells #[.int .i64 0, .int .i64 0, .int .i64 0, .slice a2 0 c2] 83) := ⟨_, rfl⟩
  have bA : Below wc.heap.size wc WA := by rw [hWA]; exact xA1
  have kO : Blk WA wc.heap.size #[.int .i64 0, .int .i64 0, .int .i64 0, .slice a2 0 c2] 83 := by rw [hWA]; exact Blk.new _ _ _
  have hSA : WA.heap.size = wc.heap.size + 1 := by rw [hWA]; simp
  replace q0 := keepc bA q0
  replace q1 := keepc bA q1
  replace q2 := keepc bA q2
  replace q3 := keepc bA q3
  replace kR := kR.below bA
  have HBA := xH1 (HB2.out.trans (bA.mono HB2.out.size))
  have Hhown0 := xH1 hown
  have Hhown := xH1 (owns_below hown bA)
  clear hb bA hown
  have HROW : Hid (∀ q, rowOf a2 = some q → w1.heap.size ≤ q ∧ q < wc.heap.size) := xH1 (owns_row Hhown0.out)
  have hne : w.heap.size + 1 ≠ wc.heap.size := by omega
  have o0 := kO.cell 0 rfl
  have o1 := kO.cell 1 rfl
  have o2 := kO.cell 2 rfl
  have o3 := kO.cell 3 rfl
  have oz0 := kO.fz 0
  have oz1 := kO.fz 1
  have oz2 := kO.fz 2
  have oz3 := kO.fz 3
  have r0 := kR.cell 0 rfl
  have r1 := kR.cell 1 rfl
  have r2 := kR.cell 2 rfl
  have r3 := kR.cell 3 rfl
  have rz0 := kR.fz 0
  have rz1 := kR.fz 1
  have rz2 := kR.fz 2
  have rz3 := kR.fz 3
  have HRL := xH1 hR1
  clear kO kR kR0 hR1
  subst hWA
  go_wp2
  have hR1 := HRL.out
  have hT := (((((Touch.refl [w.heap.size + 1] (wc.alloc (.cells #[.int .i64 0, .int .i64 0, .int .i64 0, .slice a2 0 c2] 83))).set (v := .int .i64 1) (b := w.heap.size + 1) (j := 0) (by simp)).set (v := .int .i64 t) (b := w.heap.size + 1) (j := 1) (by simp)).set (v := .int .i64 0) (b := w.heap.size + 1) (j := 2) (by simp)).set (v := .slice none 0 0) (b := w.heap.size + 1) (j := 3) (by simp))
  have hBz := hT.below (B := w.heap.size) HBA.out.size (fun k hk => by have := HB1.out.size; simp only [List.mem_cons, List.not_mem_nil, or_false] at hk; omega)
  refine bodyPost_ret (v := .tuple #[.agg #[.int .i64 1, .int .i64 t, .int .i64 0, .slice none 0 0], .int .i64 0, .bool true]) (by simp [results, Try.results73, go_sem, r0, r1, r2, r3]) rfl ⟨⟨1, t, 0, []⟩, nilV, rfl, rfl, ?_, HBA.out.trans hBz⟩
  exact SlN.nil _ _
 ·dsimp only at h1 h2 h3 h4
  subst h1 h3
  have h6 : n ≤ 6 := by rw [← hl]; exact h4.1
  have hno1 := (hno rfl).1
  have hno2 := (hno rfl).2
  clear hno
  have HL := xH1 hl
  have HOK := xH1 ok0
  clear hl ok0
  obtain ⟨W0, hW0⟩ : ∃ W0 : World, W0 = ((w.alloc (.cells #[.int .i64 1, .int .i64 ow, .int .i64 0, .slice a n c] 83)).alloc (.cells #[.int .i64 0, .int .i64 0, .int .i64 0, .slice none 0 0] 83)) := ⟨_, rfl⟩
  have B0 : Below w.heap.size w W0 := by
   rw [hW0]
   exact ((xB1.alloc (by simp) _).alloc (by simp) _)
  have kS : Blk W0 (w.heap.size) #[.int .i64 1, .int .i64 ow, .int .i64 0, .slice a n c] 83 := by
   rw [hW0]
   have h := Blk.new w #[.int .i64 1, .int .i64 ow, .int .i64 0, .slice a n c] 83
   exact h |>.alloc _
  have kR : Blk W0 (w.heap.size + 1) #[.int .i64 0, .int .i64 0, .int .i64 0, .slice none 0 0] 83 := by
   rw [hW0]
   have h := Blk.new (w.alloc (.cells #[.int .i64 1, .int .i64 ow, .int .i64 0, .slice a n c] 83)) #[.int .i64 0, .int .i64 0, .int .i64 0, .slice none 0 0] 83
   simp only [World.size_alloc] at h
   exact h
  have hS0 : W0.heap.size = w.heap.size + 2 := by rw [hW0]; simp
  have HR := xH1 (hr.below B0)
  have HB := xH1 B0
  clear hr B0
  have q0 := kS.cell 0 rfl
  have q1 := kS.cell 1 rfl
  have q2 := kS.cell 2 rfl
  have q3 := kS.cell 3 rfl
  go_enter Try.func73, Try.ntmps73
  go_wp2_with fail
  rw [← hW0]
  clear hW0
  refine (specOnceValid_ok ⟨1, ow, 0, ws⟩ a n c _ HL.out hc HR.out HOK.out).mono ?_
  rintro e w1 ⟨rfl, hb⟩
  replace q0 := keepc hb q0
  replace q1 := keepc hb q1
  replace q2 := keepc hb q2
  replace q3 := keepc hb q3
  replace kR := kR.below hb
  have HB1 := xH1 (HB.out.trans (hb.mono HB.out.size))
  have HR1 := xH1 (HR.out.below hb)
  have hR1 := kR.lt
  clear hb HR kS
  go_wp2_with fail
  refine (specThread_ok t _ ht).mono ?_
  rintro e w3 ⟨rfl, hw3⟩
  have hw3' := hw3.symm
  subst hw3'
  go_wp2_with fail
  refine (specOnceCopy_any ⟨1, ow, 0, ws⟩ a n c _ HL.out (by omega) HR1.out).mono ?_
  rintro e wc ⟨a2, c2, rfl, hown, hb⟩
  have hb1 := xH1 hb
  dsimp only at hown
  have HB2 := xH1 (HB1.out.trans (hb.mono HB1.out.size))
  replace q0 := keepc hb q0
  replace q1 := keepc hb q1
  replace q2 := keepc hb q2
  replace q3 := keepc hb q3
  replace kR := kR.below hb
  have kR0 := kR
  have hS2 := hb.size
  obtain ⟨WA, hWA⟩ : ∃ WA : World, WA = wc.alloc (.cells #[.int .i64 1, .int .i64 ow, .int .i64 0, .slice a2 n c2] 83) := ⟨_, rfl⟩
  have bA : Below wc.heap.size wc WA := by rw [hWA]; exact xA1
  have bA1 := xH1 bA
  have kO : Blk WA wc.heap.size #[.int .i64 1, .int .i64 ow, .int .i64 0, .slice a2 n c2] 83 := by rw [hWA]; exact Blk.new _ _ _
  have hSA : WA.heap.size = wc.heap.size + 1 := by rw [hWA]; simp
  replace q0 := keepc bA q0
  replace q1 := keepc bA q1
  replace q2 := keepc bA q2
  replace q3 := keepc bA q3
  replace kR := kR.below bA
  have HBA := xH1 (HB2.out.trans (bA.mono HB2.out.size))
  have Hhown0 := xH1 hown
  have Hhown := xH1 (owns_below hown bA)
  clear hb bA hown
  have HROW : Hid (∀ q, rowOf a2 = some q → w1.heap.size ≤ q ∧ q < wc.heap.size) := xH1 (owns_row Hhown0.out)
  have hne : w.heap.size + 1 ≠ wc.heap.size := by omega
  have o0 := kO.cell 0 rfl
  have o1 := kO.cell 1 rfl
  have o2 := kO.cell 2 rfl
  have o3 := kO.cell 3 rfl
  have oz0 := kO.fz 0
  have oz1 := kO.fz 1
  have oz2 := kO.fz 2
  have oz3 := kO.fz 3
  have t1 : (t == ow) = false := by simpa using hno1
  have hfi : findI ws t = -1 := findI_not hno2
  have HFI := xH1 hfi
  have HR2 := xH1 ((HR1.out.below hb1.out).below bA1.out)
  have HRL := xH1 hR1
  clear hfi hR1 hno1 hno2 kR0
  subst hWA
  go_wp2_with fail
  refine (specAt_any a n c ws t _ HL.out (by unfold maxLen; omega) HR2.out).mono ?_
  rintro e w3 ⟨rfl, hw3⟩
  have hw3' := hw3.symm
  subst hw3'
  rw [HFI.out]
  go_wp2_with (at_builtin; refine wpList_append_sl (m := 1) (cm := 1) (news := [.int .i64 t]) rfl _ _ 23 rfl Try.underlying23 info_int rfl (by decide) rfl Hhown.out (by show Value.slice (some ⟨wc.heap.size + 1, 0, none⟩) 1 1 = _; simp) rfl rfl (by simp [Value.oneCell']) (by omega) (by decide) (by simp; omega) ?_; intro a3 c3 w3 hown3 hgr3; have kO3 := kO.grown hgr3 (blk_owns kO Hhown.out (by decide : (83 : TypeId) ≠ 3)); have kR3 := kR.grown hgr3 (blk_owns kR Hhown.out (by decide : (83 : TypeId) ≠ 3)); have ofz3 := kO3.fz 3; have og3 := kO3.cell 3 rfl; have kO4 := kO3.set 3 (.slice a3 (n + 1) c3); have kR4 := kR3.other ⟨wc.heap.size, 3, none⟩ (.slice a3 (n + 1) c3) hne; have p0 := kO4.cell 0 rfl; have p1 := kO4.cell 1 rfl; have p2 := kO4.cell 2 rfl; have p3 := kO4.cell 3 rfl; have r0 := kR4.cell 0 rfl; have rz0 := kR4.fz 0; have r1 := kR4.cell 1 rfl; have rz1 := kR4.fz 1; have r2 := kR4.cell 2 rfl; have rz2 := kR4.fz 2; have r3 := kR4.cell 3 rfl; have rz3 := kR4.fz 3; have hnO := blk_owns kO3 hown3 (by decide : (83 : TypeId) ≠ 3); have hnR := blk_owns kR3 hown3 (by decide : (83 : TypeId) ≠ 3); have HO3 := xH1 hown3; have HG3 := xH1 hgr3; clear kO kR kO3 kR3 kO4 kR4 hown3 hgr3)
  have hB3 := HBA.out.trans (below_of_grown HG3.out HBA.out.size (fun q hq => by have := (HROW.out q hq).1; have := HB1.out.size; omega))
  have hT := ((((((Touch.refl [wc.heap.size, w.heap.size + 1] w3).set (v := .slice a3 (n + 1) c3) (b := wc.heap.size) (j := 3) (by simp)).set (v := .int .i64 1) (b := w.heap.size + 1) (j := 0) (by simp)).set (v := .int .i64 ow) (b := w.heap.size + 1) (j := 1) (by simp)).set (v := .int .i64 0) (b := w.heap.size + 1) (j := 2) (by simp)).set (v := .slice a3 (n + 1) c3) (b := w.heap.size + 1) (j := 3) (by simp))
  have hBz := hT.below (B := w.heap.size) hB3.size (fun k hk => by have := HB1.out.size; simp only [List.mem_cons, List.not_mem_nil, or_false] at hk; omega)
  refine bodyPost_ret (v := .tuple #[.agg #[.int .i64 1, .int .i64 ow, .int .i64 0, .slice a3 (n + 1) c3], .int .i64 1, .bool true]) (by simp [results, Try.results73, go_sem, r0, r1, r2, r3]) rfl ⟨⟨1, ow, 0, ws ++ [t]⟩, ⟨a3, n + 1, c3⟩, rfl, rfl, ?_, hB3.trans hBz⟩
  have hown4 := owns_touch HO3.out hT (fun q hq hm => by
   simp only [List.mem_cons, List.not_mem_nil, or_false] at hm
   rcases hm with rfl | rfl
   ·exact hnO hq
   ·exact hnR hq)
  have hsn := SlN.of_owns (w0 := w) hown4 (by have := HB1.out.size; omega)
  have hpp : ints (ws ++ [t]) = ints ws ++ [.int .i64 t] := by simp [ints]
  refine ⟨by show _ = (ws ++ [t]).length; rw [List.length_append, HL.out]; rfl, ?_, ?_, hsn.cap, by show ints (ws ++ [t]) = [] ∨ _; rw [hpp]; exact hsn.ty⟩
  ·show Rd _ _ (ints (ws ++ [t]))
   rw [hpp]; exact hsn.rd
  ·show ints (ws ++ [t]) = [] ∨ _
   rw [hpp]; exact hsn.new
 ·dsimp only at h1 h2 h3 h4
  subst h1 h4
  obtain rfl : 0 = n := by simpa using hl
  have HL := xH1 hl
  have HOK := xH1 ok0
  clear hl ok0
  obtain ⟨W0, hW0⟩ : ∃ W0 : World, W0 = ((w.alloc (.cells #[.int .i64 2, .int .i64 ow, .int .i64 va, .slice a 0 c] 83)).alloc (.cells #[.int .i64 0, .int .i64 0, .int .i64 0, .slice none 0 0] 83)) := ⟨_, rfl⟩
  have B0 : Below w.heap.size w W0 := by
   rw [hW0]
   exact ((xB1.alloc (by simp) _).alloc (by simp) _)
  have kS : Blk W0 (w.heap.size) #[.int .i64 2, .int .i64 ow, .int .i64 va, .slice a 0 c] 83 := by
   rw [hW0]
   have h := Blk.new w #[.int .i64 2, .int .i64 ow, .int .i64 va, .slice a 0 c] 83
   exact h |>.alloc _
  have kR : Blk W0 (w.heap.size + 1) #[.int .i64 0, .int .i64 0, .int .i64 0, .slice none 0 0] 83 := by
   rw [hW0]
   have h := Blk.new (w.alloc (.cells #[.int .i64 2, .int .i64 ow, .int .i64 va, .slice a 0 c] 83)) #[.int .i64 0, .int .i64 0, .int .i64 0, .slice none 0 0] 83
   simp only [World.size_alloc] at h
   exact h
  have hS0 : W0.heap.size = w.heap.size + 2 := by rw [hW0]; simp
  have HR := xH1 (hr.below B0)
  have HB := xH1 B0
  clear hr B0
  have q0 := kS.cell 0 rfl
  have q1 := kS.cell 1 rfl
  have q2 := kS.cell 2 rfl
  have q3 := kS.cell 3 rfl
  go_enter Try.func73, Try.ntmps73
  go_wp2_with fail
  rw [← hW0]
  clear hW0
  refine (specOnceValid_ok ⟨2, ow, va, []⟩ a 0 c _ HL.out hc HR.out HOK.out).mono ?_
  rintro e w1 ⟨rfl, hb⟩
  replace q0 := keepc hb q0
  replace q1 := keepc hb q1
  replace q2 := keepc hb q2
  replace q3 := keepc hb q3
  replace kR := kR.below hb
  have HB1 := xH1 (HB.out.trans (hb.mono HB.out.size))
  have HR1 := xH1 (HR.out.below hb)
  have hR1 := kR.lt
  clear hb HR kS
  go_wp2_with fail
  refine (specThread_ok t _ ht).mono ?_
  rintro e w3 ⟨rfl, hw3⟩
  have hw3' := hw3.symm
  subst hw3'
  go_wp2_with fail
  refine (specOnceCopy_any ⟨2, ow, va, []⟩ a 0 c _ HL.out (by omega) HR1.out).mono ?_
  rintro e wc ⟨a2, c2, rfl, hown, hb⟩
  dsimp only at hown
  have HB2 := xH1 (HB1.out.trans (hb.mono HB1.out.size))
  replace q0 := keepc hb q0
  replace q1 := keepc hb q1
  replace q2 := keepc hb q2
  replace q3 := keepc hb q3
  replace kR := kR.below hb
  have kR0 := kR
  have hS2 := hb.size
  obtain ⟨WA, hWA⟩ : ∃ WA : World, WA = wc.alloc (.cells #[.int .i64 2, .int .i64 ow, .int .i64 va, .slice a2 0 c2] 83) := ⟨_, rfl⟩
  have bA : Below wc.heap.size wc WA := by rw [hWA]; exact xA1
  have kO : Blk WA wc.heap.size #[.int .i64 2, .int .i64 ow, .int .i64 va, .slice a2 0 c2] 83 := by rw [hWA]; exact Blk.new _ _ _
  have hSA : WA.heap.size = wc.heap.size + 1 := by rw [hWA]; simp
  replace q0 := keepc bA q0
  replace q1 := keepc bA q1
  replace q2 := keepc bA q2
  replace q3 := keepc bA q3
  replace kR := kR.below bA
  have HBA := xH1 (HB2.out.trans (bA.mono HB2.out.size))
  have Hhown0 := xH1 hown
  have Hhown := xH1 (owns_below hown bA)
  clear hb bA hown
  have HROW : Hid (∀ q, rowOf a2 = some q → w1.heap.size ≤ q ∧ q < wc.heap.size) := xH1 (owns_row Hhown0.out)
  have hne : w.heap.size + 1 ≠ wc.heap.size := by omega
  have o0 := kO.cell 0 rfl
  have o1 := kO.cell 1 rfl
  have o2 := kO.cell 2 rfl
  have o3 := kO.cell 3 rfl
  have oz0 := kO.fz 0
  have oz1 := kO.fz 1
  have oz2 := kO.fz 2
  have oz3 := kO.fz 3
  have r0 := kR.cell 0 rfl
  have r1 := kR.cell 1 rfl
  have r2 := kR.cell 2 rfl
  have r3 := kR.cell 3 rfl
  have rz0 := kR.fz 0
  have rz1 := kR.fz 1
  have rz2 := kR.fz 2
  have rz3 := kR.fz 3
  have HRL := xH1 hR1
  clear kO kR kR0 hR1
  subst hWA
  go_wp2
  have hR1 := HRL.out
  have hT := (((((Touch.refl [w.heap.size + 1] (wc.alloc (.cells #[.int .i64 2, .int .i64 ow, .int .i64 va, .slice a2 0 c2] 83))).set (v := .int .i64 2) (b := w.heap.size + 1) (j := 0) (by simp)).set (v := .int .i64 ow) (b := w.heap.size + 1) (j := 1) (by simp)).set (v := .int .i64 va) (b := w.heap.size + 1) (j := 2) (by simp)).set (v := .slice a2 0 c2) (b := w.heap.size + 1) (j := 3) (by simp))
  have hBz := hT.below (B := w.heap.size) HBA.out.size (fun k hk => by have := HB1.out.size; simp only [List.mem_cons, List.not_mem_nil, or_false] at hk; omega)
  refine bodyPost_ret (v := .tuple #[.agg #[.int .i64 2, .int .i64 ow, .int .i64 va, .slice a2 0 c2], .int .i64 2, .bool true]) (by simp [results, Try.results73, go_sem, r0, r1, r2, r3]) rfl ⟨⟨2, ow, va, []⟩, ⟨a2, 0, c2⟩, rfl, rfl, ?_, HBA.out.trans hBz⟩
  have hown4 := owns_touch Hhown.out hT (fun q hq hm => by have := (HROW.out q hq).1; simp only [List.mem_singleton] at hm; omega)
  exact SlN.of_owns (w0 := w) hown4 (by have := HB1.out.size; omega)
end Go.Proofs.Ytfpgijihiifogaa
