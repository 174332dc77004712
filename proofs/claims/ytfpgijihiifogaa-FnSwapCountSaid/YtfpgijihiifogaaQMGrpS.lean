/- Part of a proof: MGrpS. -/
import Derived.Test.YtfpgijihiifogaaQMOnceS2
set_option maxRecDepth 100000
set_option maxHeartbeats 16000000
namespace Go.Proofs.Ytfpgijihiifogaa
open Go.RowKit
theorem specValue_any (t : Int) (w : World) : Calls Try.prog 61 #[.int .i64 t] w fun e w' => e = .returned (.bool (decide (0 ≤ t ∧ t ≤ 99))) ∧ w' = w := by
 by_cases h1 : 0 ≤ t
 ·by_cases h2 : t ≤ 99
  ·rw [decide_eq_true (⟨h1, h2⟩ : 0 ≤ t ∧ t ≤ 99)]
   exact specValue_ok t w ⟨h1, h2⟩
  ·rw [decide_eq_false (fun h : 0 ≤ t ∧ t ≤ 99 => h2 h.2)]
   have d1 : decide (0 ≤ t) = true := decide_eq_true h1
   have d2 : decide (t ≤ 99) = false := decide_eq_false h2
   go_enter Try.func61, Try.ntmps61
   go_wp2
   go_ret
   exact ⟨rfl, rfl⟩
 ·rw [decide_eq_false (fun h : 0 ≤ t ∧ t ≤ 99 => h1 h.1)]
  have d1 : decide (0 ≤ t) = false := decide_eq_false h1
  go_enter Try.func61, Try.ntmps61
  go_wp2
  go_ret
  exact ⟨rfl, rfl⟩
theorem specRuns_ok (ws : List Int) (a : Option Addr) (n c : Nat) (t : Int) (w : World) (hl : ws.length = n) (hc : n ≤ c) (hr : Rd w a (ints ws)) (ok : onceOk ⟨1, t, 0, ws⟩) :
  Calls Try.prog 83 #[.agg #[.int .i64 1, .int .i64 t, .int .i64 0, .slice a n c], .int .i64 t] w fun e w' => e = .returned (.bool true) ∧ Below w.heap.size w w' := by
 have t0 : (t == t) = true := by simp
 obtain ⟨W0, hW0⟩ : ∃ W0 : World, W0 = (w.alloc (.cells #[.int .i64 1, .int .i64 t, .int .i64 0, .slice a n c] 83)) := ⟨_, rfl⟩
 have B0 : Below w.heap.size w W0 := by
  rw [hW0]
  exact (xB1.alloc (by simp) _)
 have kS : Blk W0 (w.heap.size) #[.int .i64 1, .int .i64 t, .int .i64 0, .slice a n c] 83 := by
  rw [hW0]
  have h := Blk.new w #[.int .i64 1, .int .i64 t, .int .i64 0, .slice a n c] 83
  exact h
 have hS0 : W0.heap.size = w.heap.size + 1 := by rw [hW0]; simp
 have Hhr := xH1 (hr.below B0)
 have HB := xH1 B0
 clear B0 hr
 have q0 := kS.cell 0 rfl
 have q1 := kS.cell 1 rfl
 have q2 := kS.cell 2 rfl
 have q3 := kS.cell 3 rfl
 go_enter Try.func83, Try.ntmps83
 go_wp2_with fail
 rw [← hW0]
 clear hW0
 refine (specOnceValid_ok ⟨1, t, 0, ws⟩ a n c _ hl hc Hhr.out ok).mono ?_
 rintro e w1 ⟨rfl, hb⟩
 replace q0 := keepc hb q0
 replace q1 := keepc hb q1
 replace q2 := keepc hb q2
 replace q3 := keepc hb q3
 replace kS := kS.below hb
 replace Hhr := xH1 (Hhr.out.below hb)
 replace HB := xH1 (HB.out.trans (hb.mono HB.out.size))
 clear hb
 go_wp2
 go_ret
 exact ⟨rfl, HB.out⟩
theorem specFinishOnce_ok (ws : List Int) (a : Option Addr) (n c : Nat) (t v : Int) (w : World) (hl : ws.length = n) (hc : n ≤ c) (hr : Rd w a (ints ws)) (ok : onceOk ⟨1, t, 0, ws⟩) (hv : 0 ≤ v ∧ v ≤ 99) :
  Calls Try.prog 72 #[.agg #[.int .i64 1, .int .i64 t, .int .i64 0, .slice a n c], .int .i64 t, .int .i64 v] w fun e w' => ∃ u : SlV, e = .returned (.tuple #[onceV (onceEnd t v) nilV, u.val, .bool true]) ∧ w'.ownsRow w.heap.size 3 1 u.val u.n (ints ws) ∧ Below w.heap.size w w' := by
 have h6 : n ≤ 6 := by
  rw [← hl]
  rcases ok with ⟨h, _⟩ | ⟨_, _, _, h, _⟩ | ⟨h, _⟩
  ·cases h
  ·exact h.1
  ·cases h
 have HL := xH1 hl
 have HL1 : Hid ((ints ws).length = n * 1) := xH1 (by rw [List.length_map, hl, Nat.mul_one])
 have HOK := xH1 ok
 clear hl ok
 obtain ⟨W0, hW0⟩ : ∃ W0 : World, W0 = ((w.alloc (.cells #[.int .i64 1, .int .i64 t, .int .i64 0, .slice a n c] 83)).alloc (.cells #[.int .i64 0, .int .i64 0, .int .i64 0, .slice none 0 0] 83)) := ⟨_, rfl⟩
 have B0 : Below w.heap.size w W0 := by
  rw [hW0]
  exact ((xB1.alloc (by simp) _).alloc (by simp) _)
 have kS : Blk W0 (w.heap.size) #[.int .i64 1, .int .i64 t, .int .i64 0, .slice a n c] 83 := by
  rw [hW0]
  have h := Blk.new w #[.int .i64 1, .int .i64 t, .int .i64 0, .slice a n c] 83
  exact h |>.alloc _
 have kR : Blk W0 (w.heap.size + 1) #[.int .i64 0, .int .i64 0, .int .i64 0, .slice none 0 0] 83 := by
  rw [hW0]
  have h := Blk.new (w.alloc (.cells #[.int .i64 1, .int .i64 t, .int .i64 0, .slice a n c] 83)) #[.int .i64 0, .int .i64 0, .int .i64 0, .slice none 0 0] 83
  simp only [World.size_alloc] at h
  exact h
 have hS0 : W0.heap.size = w.heap.size + 2 := by rw [hW0]; simp
 have Hhr := xH1 (hr.below B0)
 have HB := xH1 B0
 clear B0 hr
 have q0 := kS.cell 0 rfl
 have q1 := kS.cell 1 rfl
 have q2 := kS.cell 2 rfl
 have q3 := kS.cell 3 rfl
 go_enter Try.func72, Try.ntmps72
 go_wp2_with fail
 rw [← hW0]
 clear hW0
 refine (specRuns_ok ws a n c t _ HL.out hc Hhr.out HOK.out).mono ?_
 rintro e w1 ⟨rfl, hb⟩
 replace q0 := keepc hb q0
 replace q1 := keepc hb q1
 replace q2 := keepc hb q2
 replace q3 := keepc hb q3
 replace kS := kS.below hb
 replace kR := kR.below hb
 replace Hhr := xH1 (Hhr.out.below hb)
 replace HB := xH1 (HB.out.trans (hb.mono HB.out.size))
 clear hb
 go_wp2_with fail
 refine (specValue_ok v _ hv).mono ?_
 rintro e wsame ⟨rfl, hwsame⟩
 have hwsame' := hwsame.symm
 subst hwsame'
 have kR1 := xH1 kR
 have hRlt := xH1 kR.lt
 clear kS kR
 have bE : Below w1.heap.size w1 (w1.alloc (.cells #[] 3)) := xA1
 have Hr2 := Hhr.out.below bE
 replace q3 := keepc bE q3
 have HBE := xH1 (HB.out.trans (bE.mono HB.out.size))
 have hs1 : w1.heap.size ≤ (w1.alloc (.cells #[] 3)).heap.size := bE.size
 clear bE
 go_wp2_with (at_builtin; refine wpList_append_rd (news := ints ws) rfl _ _ 23 rfl Try.underlying23 info_int rfl (by decide) rfl (owns_empty w1 3 1) rfl HL1.out Hr2 (ints_one ws) (by omega) (by decide) hs1 ?_; intro a3 c3 w3 ho3 hg3; rw [Nat.zero_add, List.nil_append] at ho3; have kR3 := (kR1.out.alloc (.cells #[] 3)).grown hg3 (fun e => by have := hRlt.out; simp only [rowOf, Option.some.injEq] at e; omega); have HB3 := xH1 (HBE.out.trans (below_of_grown hg3 HBE.out.size (fun q hq => by have := HB.out.size; simp only [rowOf, Option.some.injEq] at hq; omega))); have r0 := kR3.cell 0 rfl; have rz0 := kR3.fz 0; have r1 := kR3.cell 1 rfl; have rz1 := kR3.fz 1; have r2 := kR3.cell 2 rfl; have rz2 := kR3.fz 2; have r3 := kR3.cell 3 rfl; have rz3 := kR3.fz 3; have HO3 := xH1 ho3; clear kR3 ho3 hg3)
 have hRl := hRlt.out
 have hS1 := HB.out.size
 have hT := (((((Touch.refl [w.heap.size + 1] w3).set (v := .int .i64 2) (b := w.heap.size + 1) (j := 0) (by simp)).set (v := .int .i64 t) (b := w.heap.size + 1) (j := 1) (by simp)).set (v := .int .i64 v) (b := w.heap.size + 1) (j := 2) (by simp)).set (v := .slice none 0 0) (b := w.heap.size + 1) (j := 3) (by simp))
 have hBz := hT.below (B := w.heap.size) HB3.out.size (fun k hk => by simp only [List.mem_cons, List.not_mem_nil, or_false] at hk; omega)
 refine bodyPost_ret (v := .tuple #[.agg #[.int .i64 2, .int .i64 t, .int .i64 v, .slice none 0 0], .slice a3 n c3, .bool true]) (by simp [results, Try.results72, go_sem, r0, r1, r2, r3]) rfl ⟨⟨a3, n, c3⟩, rfl, ?_, HB3.out.trans hBz⟩
 exact owns_mono (owns_touch HO3.out hT (fun q hq hm => by have := (owns_row HO3.out q hq).1; simp only [List.mem_singleton] at hm; omega)) hS1
theorem specGroupValid_ok (g : GrpD) (a : Option Addr) (n c : Nat) (w : World) (hl : g.waits.length = n) (hc : n ≤ c) (hr : Rd w a (ints g.waits)) (ok : grpOk g) :
  Calls Try.prog 74 #[.agg #[.int .i64 g.count, .slice a n c]] w fun e w' => e = .returned (.bool true) ∧ Below w.heap.size w w' := by
 obtain ⟨⟨g1, g2⟩, h6, hz⟩ := ok
 have HL := xH1 hl
 have H6 := xH1 h6
 have HZ := xH1 hz
 clear hl h6 hz
 obtain ⟨W0, hW0⟩ : ∃ W0 : World, W0 = (w.alloc (.cells #[.int .i64 g.count, .slice a n c] 85)) := ⟨_, rfl⟩
 have B0 : Below w.heap.size w W0 := by
  rw [hW0]
  exact (xB1.alloc (by simp) _)
 have kS : Blk W0 (w.heap.size) #[.int .i64 g.count, .slice a n c] 85 := by
  rw [hW0]
  have h := Blk.new w #[.int .i64 g.count, .slice a n c] 85
  exact h
 have hS0 : W0.heap.size = w.heap.size + 1 := by rw [hW0]; simp
 have Hhr := xH1 (hr.below B0)
 have HB := xH1 B0
 clear B0 hr
 have q0 := kS.cell 0 rfl
 have q1 := kS.cell 1 rfl
 go_enter Try.func74, Try.ntmps74
 go_wp2_with fail
 rw [← hW0]
 clear hW0
 refine (specValue_ok g.count _ ⟨g1, g2⟩).mono ?_
 rintro e wsame ⟨rfl, hwsame⟩
 have hwsame' := hwsame.symm
 subst hwsame'
 go_wp2_with fail
 refine (specWaits_ok a n c g.waits _ HL.out hc Hhr.out H6.out).mono ?_
 rintro e w1 ⟨rfl, hb⟩
 replace q0 := keepc hb q0
 replace q1 := keepc hb q1
 replace kS := kS.below hb
 replace Hhr := xH1 (Hhr.out.below hb)
 replace HB := xH1 (HB.out.trans (hb.mono HB.out.size))
 clear hb
 by_cases h0 : g.count = 0
 ·have hn : n = 0 := by rw [← HL.out, HZ.out h0]; rfl
  have d1 : decide (0 < g.count) = false := decide_eq_false (by omega)
  have e1 : ((n : Int) == 0) = true := by simp [hn]
  clear h0 hn
  go_wp2
  go_ret
  exact ⟨rfl, HB.out⟩
 ·have d1 : decide (0 < g.count) = true := decide_eq_true (by omega)
  clear h0
  go_wp2
  go_ret
  exact ⟨rfl, HB.out⟩
end Go.Proofs.Ytfpgijihiifogaa
