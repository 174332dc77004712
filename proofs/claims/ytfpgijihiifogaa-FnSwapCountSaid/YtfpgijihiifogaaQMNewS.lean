/- Part of a proof: MNewS. -/
import Derived.Test.YtfpgijihiifogaaQMGrpS
set_option maxRecDepth 100000
set_option maxHeartbeats 16000000
namespace Go.Proofs.Ytfpgijihiifogaa
open Go.RowKit
theorem specNewSem_ok (m : Int) (w : World) (h : 1 ≤ m ∧ m ≤ 9) :
  Calls Try.prog 32 #[.int .i64 m] w fun e w' => ∃ s : SlV, e = .returned (.tuple #[semV ⟨m, m, []⟩ s, .bool true]) ∧ SlN w w' s [] 0 ∧ Below w.heap.size w w' := by
 have d1 : decide (m < 1) = false := decide_eq_false (by omega)
 have d2 : decide (9 < m) = false := decide_eq_false (by omega)
 go_enter Try.func32, Try.ntmps32
 go_wp2
 refine bodyPost_ret (v := .tuple #[.agg #[.int .i64 m, .int .i64 m, .slice (some ⟨w.heap.size + 1, 0, none⟩) 0 0], .bool true]) (by simp [results, Try.results32, go_sem]) rfl ⟨⟨some ⟨w.heap.size + 1, 0, none⟩, 0, 0⟩, rfl, ⟨rfl, .inl rfl, .inl rfl, Nat.le_refl _, .inl rfl⟩, ?_⟩
 exact (xA1).alloc (by simp) _
theorem specNewBar_ok (m : Int) (w : World) (h : 1 ≤ m ∧ m ≤ 6) :
  Calls Try.prog 33 #[.int .i64 m] w fun e w' => ∃ s : SlV, e = .returned (.tuple #[barV ⟨m, 0, []⟩ s, .bool true]) ∧ SlN w w' s [] 0 ∧ Below w.heap.size w w' := by
 have d1 : decide (m < 1) = false := decide_eq_false (by omega)
 have d2 : decide (6 < m) = false := decide_eq_false (by omega)
 go_enter Try.func33, Try.ntmps33
 go_wp2
 refine bodyPost_ret (v := .tuple #[.agg #[.int .i64 m, .int .i64 0, .slice (some ⟨w.heap.size + 1, 0, none⟩) 0 0], .bool true]) (by simp [results, Try.results33, go_sem]) rfl ⟨⟨some ⟨w.heap.size + 1, 0, none⟩, 0, 0⟩, rfl, ⟨rfl, .inl rfl, .inl rfl, Nat.le_refl _, .inl rfl⟩, ?_⟩
 exact (xA1).alloc (by simp) _
theorem specNewChan_ok (m : Int) (w : World) (h : 0 ≤ m ∧ m ≤ 4) :
  Calls Try.prog 34 #[.int .i64 m] w fun e w' => ∃ s1 s2 s3 : SlV, e = .returned (.tuple #[chnV ⟨m, [], [], [], false⟩ s1 s2 s3, .bool true]) ∧ SlN w w' s1 [] 0 ∧ SlN w w' s2 [] 0 ∧ SlN w w' s3 [] 0 ∧ Below w.heap.size w w' := by
 have d1 : decide (m < 0) = false := decide_eq_false (by omega)
 have d2 : decide (4 < m) = false := decide_eq_false (by omega)
 go_enter Try.func34, Try.ntmps34
 go_wp2
 refine bodyPost_ret (v := .tuple #[.agg #[.int .i64 m, .slice (some ⟨w.heap.size + 1, 0, none⟩) 0 0, .slice (some ⟨w.heap.size + 1 + 1, 0, none⟩) 0 0, .slice (some ⟨w.heap.size + 1 + 1 + 1, 0, none⟩) 0 0, .bool false], .bool true]) (by simp [results, Try.results34, go_sem]) rfl ⟨⟨some ⟨w.heap.size + 1, 0, none⟩, 0, 0⟩, ⟨some ⟨w.heap.size + 1 + 1, 0, none⟩, 0, 0⟩, ⟨some ⟨w.heap.size + 1 + 1 + 1, 0, none⟩, 0, 0⟩, rfl, ⟨rfl, .inl rfl, .inl rfl, Nat.le_refl _, .inl rfl⟩, ⟨rfl, .inl rfl, .inl rfl, Nat.le_refl _, .inl rfl⟩, ⟨rfl, .inl rfl, .inl rfl, Nat.le_refl _, .inl rfl⟩, ?_⟩
 exact (((xA1).alloc (by simp only [World.size_alloc]; omega) _).alloc (by simp only [World.size_alloc]; omega) _).alloc (by simp only [World.size_alloc]; omega) _
end Go.Proofs.Ytfpgijihiifogaa
