/- Marks of a whole program. -/
import Derived.Test.YtnobkdkfhgjeeabPgmMark
namespace Go.Proofs.Ytnobkdkfhgjeeab
open Go.RowKit

/-- The cells, numbered from k on. -/
def Cells.mark (C : Cells) (k : Int) : Cells :=
  ⟨ints (seq k C.s.length), ints (seq (k + C.s.length) C.g.length), ints (seq (k + C.s.length + C.g.length) C.b.length), ints (seq (k + C.s.length + C.g.length + C.b.length) C.r.length),
   markRows (k + C.s.length + C.g.length + C.b.length + C.r.length) C.t⟩
def Cells.size (C : Cells) : Nat := C.s.length + C.g.length + C.b.length + C.r.length + flen C.t

theorem nodup_opt_inv {o : Option Nat} {l : List Nat} (h : (o.toList ++ l).Nodup) : l.Nodup ∧ ∀ k, o = some k → k ∉ l := by
  rw [List.nodup_append] at h
  exact ⟨h.2.1, fun k hk hm => h.2.2 k (by simp [hk]) k hm rfl⟩

/-- No two of the program's rows lie in one block. -/
structure Apart (v : PV) (vs : List Value) : Prop where
  sg : ∀ k, rowOf v.s = some k → rowOf v.g = some k → False
  sb : ∀ k, rowOf v.s = some k → rowOf v.b = some k → False
  sr : ∀ k, rowOf v.s = some k → rowOf v.r = some k → False
  st : ∀ k, rowOf v.s = some k → k ∈ fpT v.t vs → False
  gb : ∀ k, rowOf v.g = some k → rowOf v.b = some k → False
  gr : ∀ k, rowOf v.g = some k → rowOf v.r = some k → False
  gt : ∀ k, rowOf v.g = some k → k ∈ fpT v.t vs → False
  br : ∀ k, rowOf v.b = some k → rowOf v.r = some k → False
  bt : ∀ k, rowOf v.b = some k → k ∈ fpT v.t vs → False
  rt : ∀ k, rowOf v.r = some k → k ∈ fpT v.t vs → False
  tt : (fpT v.t vs).Nodup

theorem Apart.of {v : PV} {vs : List Value} (h : (fpP v vs).Nodup) : Apart v vs := by
  unfold fpP at h
  obtain ⟨h1, n1⟩ := nodup_opt_inv h
  obtain ⟨h2, n2⟩ := nodup_opt_inv h1
  obtain ⟨h3, n3⟩ := nodup_opt_inv h2
  obtain ⟨h4, n4⟩ := nodup_opt_inv h3
  refine ⟨fun k a b => n1 k a ?_, fun k a b => n1 k a ?_, fun k a b => n1 k a ?_, fun k a b => n1 k a ?_, fun k a b => n2 k a ?_, fun k a b => n2 k a ?_, fun k a b => n2 k a ?_, fun k a b => n3 k a ?_, fun k a b => n3 k a ?_, fun k a b => n4 k a b, h4⟩
  all_goals simp [b]

set_option maxHeartbeats 1000000 in
theorem markProg_any (v : PV) (vs : List Value) (C : Cells) (k0 : Int) (w : World) (hO : OwnP w v vs C) (hnd : (fpP v vs).Nodup) (hk0 : 0 ≤ k0) (hk1 : k0 + C.size ≤ 1099511627776)
    (hs : v.ns ≤ 1048576 ∧ v.ng ≤ 1048576 ∧ v.nb ≤ 1048576 ∧ v.nr ≤ 1048576 ∧ v.nt ≤ 1048576) (hin : ∀ i, (C.t.getD i []).length ≤ 3145728) :
    Calls Try.prog 22 #[.agg #[.slice v.s v.ns v.cs, .slice v.g v.ng v.cg, .slice v.b v.nb v.cb, .slice v.r v.nr v.cr, .slice v.t v.nt v.ct], .int .i64 k0] w fun e w' => e = .returned (.int .i64 (k0 + C.size)) ∧ OwnP w' v vs (C.mark k0) ∧ Touch (fpP v vs) w w' := by
  obtain ⟨z1, z2, z3, z4, z5⟩ := hs
  have HA := Lib.hid (Apart.of hnd)
  have HI := Lib.hid hin
  obtain ⟨os, og, ob, orr, ot⟩ := hO
  have l1 : C.s.length = v.ns := by have := os.1; omega
  have l2 : C.g.length = v.ng := by have := og.1; omega
  have l3 : C.b.length = v.nb := by have := ob.1; omega
  have l4 : C.r.length = v.nr := by have := orr.1; omega
  have HS : Hid (C.size = v.ns + v.ng + v.nb + v.nr + flen C.t) := Lib.hid (by unfold Cells.size; omega)
  rw [HS.out] at hk1
  have HL := Lib.hid (show C.s.length = v.ns ∧ C.g.length = v.ng ∧ C.b.length = v.nb ∧ C.r.length = v.nr from ⟨l1, l2, l3, l4⟩)
  have b0 : Below w.heap.size w (w.alloc (.cells #[.slice v.s v.ns v.cs, .slice v.g v.ng v.cg, .slice v.b v.nb v.cb, .slice v.r v.nr v.cr, .slice v.t v.nt v.ct] 26)) := (Below.refl _ _).alloc (Nat.le_refl _) _
  have kA0 := Blk.new w #[.slice v.s v.ns v.cs, .slice v.g v.ng v.cg, .slice v.b v.nb v.cb, .slice v.r v.nr v.cr, .slice v.t v.nt v.ct] 26
  have rs := Lib.hid (owns_row os)
  have rg := Lib.hid (owns_row og)
  have rb := Lib.hid (owns_row ob)
  have rr := Lib.hid (owns_row orr)
  have rt := Lib.hid ot.lt
  have T0 : Touch (fpP v vs) w (w.alloc (.cells #[.slice v.s v.ns v.cs, .slice v.g v.ng v.cg, .slice v.b v.nb v.cb, .slice v.r v.nr v.cr, .slice v.t v.nt v.ct] 26)) := Touch.of_below b0
  replace os := owns_below os b0
  replace og := owns_below og b0
  replace ob := owns_below ob b0
  replace orr := owns_below orr b0
  replace ot := ot.keep (fun k hk hl => b0.block k hl)
  clear hnd hin l1 l2 l3 l4 b0
  go_enter Try.func22, Try.ntmps22
  go_wp2_with fail
  refine (markIntS_cells 0 v.ns v.cs v.s _ (k0) _ (by omega) (by omega) (by omega) os).mono ?_
  rintro e w1 ⟨rfl, m1, g1⟩
  replace og := owns_grown og g1 (fun k e1 e2 => HA.out.sg k e2 e1)
  replace ob := owns_grown ob g1 (fun k e1 e2 => HA.out.sb k e2 e1)
  replace orr := owns_grown orr g1 (fun k e1 e2 => HA.out.sr k e2 e1)
  replace os := m1
  replace ot := ot.keep (fun k hk hl => g1.block k hl (fun e => HA.out.st k e.symm hk))
  have kA1 := kA0.grown g1 (fun e => by have := rs.out _ e; omega)
  have ca1 := kA1.cell 1 rfl
  have T1 := T0.trans (Touch.of_grown g1 (S := fpP v vs) (fun k hk => by unfold fpP; simp [hk]))
  clear g1 m1
  go_wp2_with fail
  refine (markIntS_cells 0 v.ng v.cg v.g _ (k0 + (v.ns : Nat)) _ (by omega) (by omega) (by omega) og).mono ?_
  rintro e w2 ⟨rfl, m2, g2⟩
  replace os := owns_grown os g2 (fun k e1 e2 => HA.out.sg k e1 e2)
  replace ob := owns_grown ob g2 (fun k e1 e2 => HA.out.gb k e2 e1)
  replace orr := owns_grown orr g2 (fun k e1 e2 => HA.out.gr k e2 e1)
  replace og := m2
  replace ot := ot.keep (fun k hk hl => g2.block k hl (fun e => HA.out.gt k e.symm hk))
  have kA2 := kA1.grown g2 (fun e => by have := rg.out _ e; omega)
  have ca2 := kA2.cell 2 rfl
  have T2 := T1.trans (Touch.of_grown g2 (S := fpP v vs) (fun k hk => by unfold fpP; simp [hk]))
  clear g2 m2
  go_wp2_with fail
  refine (markIntS_cells 0 v.nb v.cb v.b _ (k0 + (v.ns : Nat) + (v.ng : Nat)) _ (by omega) (by omega) (by omega) ob).mono ?_
  rintro e w3 ⟨rfl, m3, g3⟩
  replace os := owns_grown os g3 (fun k e1 e2 => HA.out.sb k e1 e2)
  replace og := owns_grown og g3 (fun k e1 e2 => HA.out.gb k e1 e2)
  replace orr := owns_grown orr g3 (fun k e1 e2 => HA.out.br k e2 e1)
  replace ob := m3
  replace ot := ot.keep (fun k hk hl => g3.block k hl (fun e => HA.out.bt k e.symm hk))
  have kA3 := kA2.grown g3 (fun e => by have := rb.out _ e; omega)
  have ca3 := kA3.cell 3 rfl
  have T3 := T2.trans (Touch.of_grown g3 (S := fpP v vs) (fun k hk => by unfold fpP; simp [hk]))
  clear g3 m3
  go_wp2_with fail
  refine (markIntS_cells 0 v.nr v.cr v.r _ (k0 + (v.ns : Nat) + (v.ng : Nat) + (v.nb : Nat)) _ (by omega) (by omega) (by omega) orr).mono ?_
  rintro e w4 ⟨rfl, m4, g4⟩
  replace os := owns_grown os g4 (fun k e1 e2 => HA.out.sr k e1 e2)
  replace og := owns_grown og g4 (fun k e1 e2 => HA.out.gr k e1 e2)
  replace ob := owns_grown ob g4 (fun k e1 e2 => HA.out.br k e1 e2)
  replace orr := m4
  replace ot := ot.keep (fun k hk hl => g4.block k hl (fun e => HA.out.rt k e.symm hk))
  have kA4 := kA3.grown g4 (fun e => by have := rr.out _ e; omega)
  have ca4 := kA4.cell 4 rfl
  have T4 := T3.trans (Touch.of_grown g4 (S := fpP v vs) (fun k hk => by unfold fpP; simp [hk]))
  clear g4 m4
  go_wp2_with fail
  refine (markOpSS_any v.nt v.ct v.t vs C.t (k0 + (v.ns : Nat) + (v.ng : Nat) + (v.nb : Nat) + (v.nr : Nat)) _ z5 (by omega) (by omega) HI.out ot HA.out.tt).mono ?_
  rintro e w5 ⟨rfl, m5, t5⟩
  have nt : ∀ k, k ∈ fpV vs → k ∈ fpT v.t vs := fun k hk => by rw [fpT_eq]; exact List.mem_append.2 (.inr hk)
  replace os := owns_touch os t5 (fun k e1 e2 => HA.out.st k e1 (nt k e2))
  replace og := owns_touch og t5 (fun k e1 e2 => HA.out.gt k e1 (nt k e2))
  replace ob := owns_touch ob t5 (fun k e1 e2 => HA.out.bt k e1 (nt k e2))
  replace orr := owns_touch orr t5 (fun k e1 e2 => HA.out.rt k e1 (nt k e2))
  have T5 := T4.trans (t5.mono (S' := fpP v vs) (fun k hk => by have := nt k hk; unfold fpP; simp [this]))
  go_wp2
  go_ret
  obtain ⟨l1, l2, l3, l4⟩ := HL.out
  refine ⟨ret_int (by rw [HS.out]; omega), ⟨?_, ?_, ?_, ?_, ?_⟩, T5⟩
  all_goals (unfold Cells.mark; simp only [l1, l2, l3, l4]; assumption)

set_option maxHeartbeats 1000000 in
theorem heldProg_yes (v : PV) (vs : List Value) (C : Cells) (k0 : Int) (w : World) (hO : OwnP w v vs (C.mark k0)) (hk0 : 0 ≤ k0) (hk1 : k0 + C.size ≤ 1099511627776)
    (hs : v.ns ≤ 1048576 ∧ v.ng ≤ 1048576 ∧ v.nb ≤ 1048576 ∧ v.nr ≤ 1048576 ∧ v.nt ≤ 1048576) (hin : ∀ i, (C.t.getD i []).length ≤ 3145728) :
    Calls Try.prog 23 #[.agg #[.slice v.s v.ns v.cs, .slice v.g v.ng v.cg, .slice v.b v.nb v.cb, .slice v.r v.nr v.cr, .slice v.t v.nt v.ct], .int .i64 k0] w fun e w' => e = .returned (.int .i64 (k0 + C.size)) ∧ Below w.heap.size w w' := by
  obtain ⟨z1, z2, z3, z4, z5⟩ := hs
  have HI := Lib.hid hin
  have b0 : Below w.heap.size w (w.alloc (.cells #[.slice v.s v.ns v.cs, .slice v.g v.ng v.cg, .slice v.b v.nb v.cb, .slice v.r v.nr v.cr, .slice v.t v.nt v.ct] 26)) := (Below.refl _ _).alloc (Nat.le_refl _) _
  obtain ⟨os, og, ob, orr, ot⟩ := hO.below b0
  have l1 : C.s.length = v.ns := by have := os.1; simp [Cells.mark, seq_len] at this; omega
  have l2 : C.g.length = v.ng := by have := og.1; simp [Cells.mark, seq_len] at this; omega
  have l3 : C.b.length = v.nb := by have := ob.1; simp [Cells.mark, seq_len] at this; omega
  have l4 : C.r.length = v.nr := by have := orr.1; simp [Cells.mark, seq_len] at this; omega
  have HS : Hid (C.size = v.ns + v.ng + v.nb + v.nr + flen C.t) := Lib.hid (by unfold Cells.size; omega)
  rw [HS.out] at hk1
  unfold Cells.mark at os og ob orr ot
  simp only [l1, l2, l3, l4] at os og ob orr ot
  clear hO hin l1 l2 l3 l4
  go_enter Try.func23, Try.ntmps23
  go_wp2_with fail
  refine (heldIntS_yes v.s v.cs v.ns (k0) _ (by omega) (by omega) (by omega) (Rd.of_owns os)).mono ?_
  rintro e w1 ⟨rfl, rfl⟩
  have k1 : ¬ k0 + (v.ns : Nat) < 0 := by omega
  go_wp2_with fail
  refine (heldIntS_yes v.g v.cg v.ng (k0 + (v.ns : Nat)) _ (by omega) (by omega) (by omega) (Rd.of_owns og)).mono ?_
  rintro e w2 ⟨rfl, rfl⟩
  have k2 : ¬ k0 + (v.ns : Nat) + (v.ng : Nat) < 0 := by omega
  go_wp2_with fail
  refine (heldIntS_yes v.b v.cb v.nb (k0 + (v.ns : Nat) + (v.ng : Nat)) _ (by omega) (by omega) (by omega) (Rd.of_owns ob)).mono ?_
  rintro e w3 ⟨rfl, rfl⟩
  have k3 : ¬ k0 + (v.ns : Nat) + (v.ng : Nat) + (v.nb : Nat) < 0 := by omega
  go_wp2_with fail
  refine (heldIntS_yes v.r v.cr v.nr (k0 + (v.ns : Nat) + (v.ng : Nat) + (v.nb : Nat)) _ (by omega) (by omega) (by omega) (Rd.of_owns orr)).mono ?_
  rintro e w4 ⟨rfl, rfl⟩
  have k4 : ¬ k0 + (v.ns : Nat) + (v.ng : Nat) + (v.nb : Nat) + (v.nr : Nat) < 0 := by omega
  go_wp2_with fail
  refine (heldOpSS_yes v.nt v.ct v.t vs C.t (k0 + (v.ns : Nat) + (v.ng : Nat) + (v.nb : Nat) + (v.nr : Nat)) _ z5 (by omega) (by omega) HI.out ot).mono ?_
  rintro e w5 ⟨rfl, rfl⟩
  have k5 : ¬ k0 + (v.ns : Nat) + (v.ng : Nat) + (v.nb : Nat) + (v.nr : Nat) + (flen C.t : Nat) < 0 := by omega
  go_wp2
  go_ret
  exact ⟨ret_int (by rw [HS.out]; omega), b0⟩

end Go.Proofs.Ytnobkdkfhgjeeab
