/- A program's whole copy, in the program's own text. -/
import Derived.Test.YtnobkdkfhgjeeabCopyKit
import Derived.Test.YtnobkdkfhgjeeabTally
namespace Go.Proofs.Ytnobkdkfhgjeeab
open Go.RowKit

set_option maxRecDepth 100000 in
set_option maxHeartbeats 4000000 in
theorem clone_any (v : PV) (p : Pg) (w : World) (hr : RdP w v p) (hz : Small v p) (hne : 0 < p.threads.length) :
    Calls Try.prog 83 #[.agg #[.slice v.s v.ns v.cs, .slice v.g v.ng v.cg, .slice v.b v.nb v.cb, .slice v.r v.nr v.cr, .slice v.t v.nt v.ct]] w fun e w' => ∃ (u : PV) (us : List Value), e = .returned (.agg #[.slice u.s u.ns u.cs, .slice u.g u.ng u.cg, .slice u.b u.nb u.cb, .slice u.r u.nr u.cr, .slice u.t u.nt u.ct]) ∧ OwnP w' u us p.cells ∧ (fpP u us).Nodup ∧ (∀ k ∈ fpP u us, w.heap.size ≤ k) ∧ Below w.heap.size w w' := by
  have hs : v.ns ≤ maxLen ∧ v.ng ≤ maxLen ∧ v.nb ≤ maxLen ∧ v.nr ≤ maxLen := by
    obtain ⟨z1, z2, z3, z4, z5, z6⟩ := hz; unfold maxLen; omega
  have zz : Hid (v.ns ≤ maxLen ∧ v.ng ≤ maxLen ∧ v.nb ≤ maxLen ∧ v.nr ≤ maxLen) := Lib.hid hs
  have HZ := Lib.hid hz
  have z5 : v.nt ≤ 1048576 := hz.lt
  have Z6 := Lib.hid hz.inn
  have ls := Lib.hid hr.ls
  have lg := Lib.hid hr.lg
  have lb := Lib.hid hr.lb
  have lr := Lib.hid hr.lr
  have lt := Lib.hid hr.lt
  clear hz
  have B0 : Below w.heap.size w (w.alloc (.cells #[.slice v.s v.ns v.cs, .slice v.g v.ng v.cg, .slice v.b v.nb v.cb, .slice v.r v.nr v.cr, .slice v.t v.nt v.ct] 26)) := (Below.refl _ _).alloc (Nat.le_refl _) _
  have k0 : Blk (w.alloc (.cells #[.slice v.s v.ns v.cs, .slice v.g v.ng v.cg, .slice v.b v.nb v.cb, .slice v.r v.nr v.cr, .slice v.t v.nt v.ct] 26)) w.heap.size #[.slice v.s v.ns v.cs, .slice v.g v.ng v.cg, .slice v.b v.nb v.cb, .slice v.r v.nr v.cr, .slice v.t v.nt v.ct] 26 := Blk.new _ _ _
  have q0 : (w.alloc (.cells #[.slice v.s v.ns v.cs, .slice v.g v.ng v.cg, .slice v.b v.nb v.cb, .slice v.r v.nr v.cr, .slice v.t v.nt v.ct] 26)).cell? ⟨w.heap.size, 0, none⟩ = some (.slice v.s v.ns v.cs) := k0.cell 0 rfl
  have q1 : (w.alloc (.cells #[.slice v.s v.ns v.cs, .slice v.g v.ng v.cg, .slice v.b v.nb v.cb, .slice v.r v.nr v.cr, .slice v.t v.nt v.ct] 26)).cell? ⟨w.heap.size, 1, none⟩ = some (.slice v.g v.ng v.cg) := k0.cell 1 rfl
  have q2 : (w.alloc (.cells #[.slice v.s v.ns v.cs, .slice v.g v.ng v.cg, .slice v.b v.nb v.cb, .slice v.r v.nr v.cr, .slice v.t v.nt v.ct] 26)).cell? ⟨w.heap.size, 2, none⟩ = some (.slice v.b v.nb v.cb) := k0.cell 2 rfl
  have q3 : (w.alloc (.cells #[.slice v.s v.ns v.cs, .slice v.g v.ng v.cg, .slice v.b v.nb v.cb, .slice v.r v.nr v.cr, .slice v.t v.nt v.ct] 26)).cell? ⟨w.heap.size, 3, none⟩ = some (.slice v.r v.nr v.cr) := k0.cell 3 rfl
  have q4 : (w.alloc (.cells #[.slice v.s v.ns v.cs, .slice v.g v.ng v.cg, .slice v.b v.nb v.cb, .slice v.r v.nr v.cr, .slice v.t v.nt v.ct] 26)).cell? ⟨w.heap.size, 4, none⟩ = some (.slice v.t v.nt v.ct) := k0.cell 4 rfl
  clear k0
  have zs : v.ns ≤ 1048576 := HZ.out.ls
  have zg : v.ng ≤ 1048576 := HZ.out.lg
  have zb : v.nb ≤ 1048576 := HZ.out.lb
  have zr : v.nr ≤ 1048576 := HZ.out.lr
  have Hs : Hid ((ints p.sems).length = v.ns * 1) := Lib.hid (by simp [ls.out])
  have Hg : Hid ((ints p.groups).length = v.ng * 1) := Lib.hid (by simp [lg.out])
  have Hb : Hid ((ints p.barriers).length = v.nb * 1) := Lib.hid (by simp [lb.out])
  have Hr : Hid ((ints p.rooms).length = v.nr * 1) := Lib.hid (by simp [lr.out])
  go_enter Try.func83, Try.ntmps83
  go_wp2
  obtain ⟨W0, hW0⟩ : ∃ W0 : World, W0 = (w.alloc (.cells #[.slice v.s v.ns v.cs, .slice v.g v.ng v.cg, .slice v.b v.nb v.cb, .slice v.r v.nr v.cr, .slice v.t v.nt v.ct] 26)) := ⟨_, rfl⟩
  have hw0s : W0.heap.size = w.heap.size + 1 := by rw [hW0]; simp
  have HW0 := Lib.hid hw0s
  clear hw0s
  rw [← hW0] at B0 q0 q1 q2 q3 q4 ⊢
  clear hW0
  obtain ⟨W1, hW1⟩ : ∃ W1 : World, W1 = W0.alloc (.cells #[.slice none 0 0, .slice none 0 0, .slice none 0 0, .slice none 0 0, .slice none 0 0] 26) := ⟨_, rfl⟩
  have b1 : Below W0.heap.size W0 (W0.alloc (.cells #[.slice none 0 0, .slice none 0 0, .slice none 0 0, .slice none 0 0, .slice none 0 0] 26)) := (Below.refl _ _).alloc (Nat.le_refl _) _
  have kR : Blk (W0.alloc (.cells #[.slice none 0 0, .slice none 0 0, .slice none 0 0, .slice none 0 0, .slice none 0 0] 26)) (w.heap.size + 1) #[.slice none 0 0, .slice none 0 0, .slice none 0 0, .slice none 0 0, .slice none 0 0] 26 := by rw [← HW0.out]; exact Blk.new _ _ _
  rw [← hW1] at b1 kR ⊢
  have hr1 := kR.lt
  clear hW1
  replace q0 := keepc b1 q0
  replace q1 := keepc b1 q1
  replace q2 := keepc b1 q2
  replace q3 := keepc b1 q3
  replace q4 := keepc b1 q4
  replace B0 := B0.trans (b1.mono B0.size)
  clear b1
  refine wp_region_fresh 14 (by kernel_rfl) (by kernel_rfl) [fun dz uz wz => uz = .pointer (some ⟨w.heap.size, 0, none⟩), fun dz uz wz => uz = .slice v.s v.ns v.cs, fun dz uz wz => ∃ (az : Option Addr) (cz : Nat), uz = .slice az v.ns cz ∧ wz.ownsRow W1.heap.size 3 1 (.slice az v.ns cz) v.ns (ints p.sems), fun dz uz wz => uz = .pointer (some ⟨w.heap.size, 1, none⟩), fun dz uz wz => uz = .slice v.g v.ng v.cg, fun dz uz wz => ∃ (az : Option Addr) (cz : Nat), uz = .slice az v.ng cz ∧ wz.ownsRow W1.heap.size 3 1 (.slice az v.ng cz) v.ng (ints p.groups), fun dz uz wz => uz = .pointer (some ⟨w.heap.size, 2, none⟩), fun dz uz wz => uz = .slice v.b v.nb v.cb, fun dz uz wz => ∃ (az : Option Addr) (cz : Nat), uz = .slice az v.nb cz ∧ wz.ownsRow W1.heap.size 3 1 (.slice az v.nb cz) v.nb (ints p.barriers), fun dz uz wz => uz = .pointer (some ⟨w.heap.size, 3, none⟩), fun dz uz wz => uz = .slice v.r v.nr v.cr, fun dz uz wz => ∃ (az : Option Addr) (cz : Nat), uz = .slice az v.nr cz ∧ wz.ownsRow W1.heap.size 3 1 (.slice az v.nr cz) v.nr (ints p.rooms), fun dz uz wz => uz = Value.agg #[(dz.getD 0 undef), (dz.getD 1 undef), (dz.getD 2 undef), (dz.getD 3 undef), .slice none 0 0], fun dz uz wz => ∃ gz : Nat, uz = .pointer (some ⟨gz, 0, none⟩) ∧ Blk wz gz #[.slice none 0 0, .slice none 0 0, .slice none 0 0, .slice none 0 0, .slice none 0 0] 26 ∧ W1.heap.size ≤ gz] (fun i => match i with | 2 => Value.ownBlock | 5 => Value.ownBlock | 8 => Value.ownBlock | 11 => Value.ownBlock | 13 => ptBk | _ => fun _ => none) (fun w' => Below W1.heap.size W1 w') (Below.refl _ _).drew (stab_of ⟨fun _ _ _ _ _ h => h, fun _ _ _ _ _ h => h, fun _ _ _ _ hb ⟨a, c, e, h⟩ => ⟨a, c, e, owns_below h hb⟩, fun _ _ _ _ _ h => h, fun _ _ _ _ _ h => h, fun _ _ _ _ hb ⟨a, c, e, h⟩ => ⟨a, c, e, owns_below h hb⟩, fun _ _ _ _ _ h => h, fun _ _ _ _ _ h => h, fun _ _ _ _ hb ⟨a, c, e, h⟩ => ⟨a, c, e, owns_below h hb⟩, fun _ _ _ _ _ h => h, fun _ _ _ _ _ h => h, fun _ _ _ _ hb ⟨a, c, e, h⟩ => ⟨a, c, e, owns_below h hb⟩, fun _ _ _ _ _ h => h, fun _ _ _ _ hb ⟨g, e, h, hs⟩ => ⟨g, e, h.below hb, hs⟩, trivial⟩) ?_ ?_
  · simp only [List.take_succ_cons, List.take_zero]
    refine ⟨?_, ?_, ?_, ?_, ?_, ?_, ?_, ?_, ?_, ?_, ?_, ?_, ?_, ?_, trivial⟩
    · intro ρ w1 hG hfr hd
      have fc : ∀ z, ρ (.const z) = z := fun _ => hfr _ rfl
      have ff : ∀ z, ρ (.func z) = .func (.func z) #[] #[] := fun _ => hfr _ rfl
      have f1 : ρ (.tmp 1) = .pointer (some ⟨w.heap.size, 0, none⟩) := hfr _ rfl
      refine gives_val (u := .pointer (some ⟨w.heap.size, 0, none⟩)) (w' := w1) (by go_simp) ⟨Below.refl _ _, rfl, (fun _ hk => by cases hk), hG⟩
    · intro ρ w1 hG hfr hd
      have fc : ∀ z, ρ (.const z) = z := fun _ => hfr _ rfl
      have ff : ∀ z, ρ (.func z) = .func (.func z) #[] #[] := fun _ => hfr _ rfl
      obtain ⟨d0, -⟩ := hd
      have d0 : (ρ (.tmp 6)) = .pointer (some ⟨w.heap.size, 0, none⟩) := d0
      have q0 := keepc hG q0
      refine gives_val (u := .slice v.s v.ns v.cs) (w' := w1) (by go_simp) ⟨Below.refl _ _, rfl, (fun _ hk => by cases hk), hG⟩
    · intro ρ w1 hG hfr hd
      have fc : ∀ z, ρ (.const z) = z := fun _ => hfr _ rfl
      have ff : ∀ z, ρ (.func z) = .func (.func z) #[] #[] := fun _ => hfr _ rfl
      obtain ⟨d0, -⟩ := hd
      have d0 : (ρ (.tmp 7)) = .slice v.s v.ns v.cs := d0
      refine gives_call (by go_simp; exact ⟨⟨rfl, rfl⟩, rfl⟩) ?_
      refine (implCloneInts_any v.s v.ns v.cs p.sems _ ls.out (by omega) (hr.rs.below (B0.trans (hG.mono B0.size)))).mono ?_
      rintro e w2 ⟨a, c, rfl, hown, hb⟩
      exact ⟨_, rfl, hb, ⟨a, c, rfl, owns_mono hown hG.size⟩, hown.lt, hG.trans (hb.mono hG.size)⟩
    · intro ρ w1 hG hfr hd
      have fc : ∀ z, ρ (.const z) = z := fun _ => hfr _ rfl
      have ff : ∀ z, ρ (.func z) = .func (.func z) #[] #[] := fun _ => hfr _ rfl
      have f1 : ρ (.tmp 1) = .pointer (some ⟨w.heap.size, 0, none⟩) := hfr _ rfl
      refine gives_val (u := .pointer (some ⟨w.heap.size, 1, none⟩)) (w' := w1) (by go_simp) ⟨Below.refl _ _, rfl, (fun _ hk => by cases hk), hG⟩
    · intro ρ w1 hG hfr hd
      have fc : ∀ z, ρ (.const z) = z := fun _ => hfr _ rfl
      have ff : ∀ z, ρ (.func z) = .func (.func z) #[] #[] := fun _ => hfr _ rfl
      obtain ⟨d0, -⟩ := hd
      have d0 : (ρ (.tmp 9)) = .pointer (some ⟨w.heap.size, 1, none⟩) := d0
      have q1 := keepc hG q1
      refine gives_val (u := .slice v.g v.ng v.cg) (w' := w1) (by go_simp) ⟨Below.refl _ _, rfl, (fun _ hk => by cases hk), hG⟩
    · intro ρ w1 hG hfr hd
      have fc : ∀ z, ρ (.const z) = z := fun _ => hfr _ rfl
      have ff : ∀ z, ρ (.func z) = .func (.func z) #[] #[] := fun _ => hfr _ rfl
      obtain ⟨d0, d1, -⟩ := hd
      have d0 : (ρ (.tmp 10)) = .slice v.g v.ng v.cg := d0
      have d1 : ∃ (az : Option Addr) (cz : Nat), (ρ (.tmp 8)) = .slice az v.ns cz ∧ w1.ownsRow W1.heap.size 3 1 (.slice az v.ns cz) v.ns (ints p.sems) := d1
      refine gives_call (by go_simp; exact ⟨⟨rfl, rfl⟩, rfl⟩) ?_
      refine (implCloneInts_any v.g v.ng v.cg p.groups _ lg.out (by omega) (hr.rg.below (B0.trans (hG.mono B0.size)))).mono ?_
      rintro e w2 ⟨a, c, rfl, hown, hb⟩
      exact ⟨_, rfl, hb, ⟨a, c, rfl, owns_mono hown hG.size⟩, hown.lt, hG.trans (hb.mono hG.size)⟩
    · intro ρ w1 hG hfr hd
      have fc : ∀ z, ρ (.const z) = z := fun _ => hfr _ rfl
      have ff : ∀ z, ρ (.func z) = .func (.func z) #[] #[] := fun _ => hfr _ rfl
      have f1 : ρ (.tmp 1) = .pointer (some ⟨w.heap.size, 0, none⟩) := hfr _ rfl
      refine gives_val (u := .pointer (some ⟨w.heap.size, 2, none⟩)) (w' := w1) (by go_simp) ⟨Below.refl _ _, rfl, (fun _ hk => by cases hk), hG⟩
    · intro ρ w1 hG hfr hd
      have fc : ∀ z, ρ (.const z) = z := fun _ => hfr _ rfl
      have ff : ∀ z, ρ (.func z) = .func (.func z) #[] #[] := fun _ => hfr _ rfl
      obtain ⟨d0, -⟩ := hd
      have d0 : (ρ (.tmp 12)) = .pointer (some ⟨w.heap.size, 2, none⟩) := d0
      have q2 := keepc hG q2
      refine gives_val (u := .slice v.b v.nb v.cb) (w' := w1) (by go_simp) ⟨Below.refl _ _, rfl, (fun _ hk => by cases hk), hG⟩
    · intro ρ w1 hG hfr hd
      have fc : ∀ z, ρ (.const z) = z := fun _ => hfr _ rfl
      have ff : ∀ z, ρ (.func z) = .func (.func z) #[] #[] := fun _ => hfr _ rfl
      obtain ⟨d0, d1, -⟩ := hd
      have d0 : (ρ (.tmp 13)) = .slice v.b v.nb v.cb := d0
      have d1 : ∃ (az : Option Addr) (cz : Nat), (ρ (.tmp 11)) = .slice az v.ng cz ∧ w1.ownsRow W1.heap.size 3 1 (.slice az v.ng cz) v.ng (ints p.groups) := d1
      refine gives_call (by go_simp; exact ⟨⟨rfl, rfl⟩, rfl⟩) ?_
      refine (implCloneInts_any v.b v.nb v.cb p.barriers _ lb.out (by omega) (hr.rb.below (B0.trans (hG.mono B0.size)))).mono ?_
      rintro e w2 ⟨a, c, rfl, hown, hb⟩
      exact ⟨_, rfl, hb, ⟨a, c, rfl, owns_mono hown hG.size⟩, hown.lt, hG.trans (hb.mono hG.size)⟩
    · intro ρ w1 hG hfr hd
      have fc : ∀ z, ρ (.const z) = z := fun _ => hfr _ rfl
      have ff : ∀ z, ρ (.func z) = .func (.func z) #[] #[] := fun _ => hfr _ rfl
      have f1 : ρ (.tmp 1) = .pointer (some ⟨w.heap.size, 0, none⟩) := hfr _ rfl
      refine gives_val (u := .pointer (some ⟨w.heap.size, 3, none⟩)) (w' := w1) (by go_simp) ⟨Below.refl _ _, rfl, (fun _ hk => by cases hk), hG⟩
    · intro ρ w1 hG hfr hd
      have fc : ∀ z, ρ (.const z) = z := fun _ => hfr _ rfl
      have ff : ∀ z, ρ (.func z) = .func (.func z) #[] #[] := fun _ => hfr _ rfl
      obtain ⟨d0, -⟩ := hd
      have d0 : (ρ (.tmp 15)) = .pointer (some ⟨w.heap.size, 3, none⟩) := d0
      have q3 := keepc hG q3
      refine gives_val (u := .slice v.r v.nr v.cr) (w' := w1) (by go_simp) ⟨Below.refl _ _, rfl, (fun _ hk => by cases hk), hG⟩
    · intro ρ w1 hG hfr hd
      have fc : ∀ z, ρ (.const z) = z := fun _ => hfr _ rfl
      have ff : ∀ z, ρ (.func z) = .func (.func z) #[] #[] := fun _ => hfr _ rfl
      obtain ⟨d0, d1, -⟩ := hd
      have d0 : (ρ (.tmp 16)) = .slice v.r v.nr v.cr := d0
      have d1 : ∃ (az : Option Addr) (cz : Nat), (ρ (.tmp 14)) = .slice az v.nb cz ∧ w1.ownsRow W1.heap.size 3 1 (.slice az v.nb cz) v.nb (ints p.barriers) := d1
      refine gives_call (by go_simp; exact ⟨⟨rfl, rfl⟩, rfl⟩) ?_
      refine (implCloneInts_any v.r v.nr v.cr p.rooms _ lr.out (by omega) (hr.rr.below (B0.trans (hG.mono B0.size)))).mono ?_
      rintro e w2 ⟨a, c, rfl, hown, hb⟩
      exact ⟨_, rfl, hb, ⟨a, c, rfl, owns_mono hown hG.size⟩, hown.lt, hG.trans (hb.mono hG.size)⟩
    · intro ρ w1 hG hfr hd
      have fc : ∀ z, ρ (.const z) = z := fun _ => hfr _ rfl
      have ff : ∀ z, ρ (.func z) = .func (.func z) #[] #[] := fun _ => hfr _ rfl
      obtain ⟨d0, d1, d2, d3, -⟩ := hd
      have d0 : ∃ (az : Option Addr) (cz : Nat), (ρ (.tmp 8)) = .slice az v.ns cz ∧ w1.ownsRow W1.heap.size 3 1 (.slice az v.ns cz) v.ns (ints p.sems) := d0
      have d1 : ∃ (az : Option Addr) (cz : Nat), (ρ (.tmp 11)) = .slice az v.ng cz ∧ w1.ownsRow W1.heap.size 3 1 (.slice az v.ng cz) v.ng (ints p.groups) := d1
      have d2 : ∃ (az : Option Addr) (cz : Nat), (ρ (.tmp 14)) = .slice az v.nb cz ∧ w1.ownsRow W1.heap.size 3 1 (.slice az v.nb cz) v.nb (ints p.barriers) := d2
      have d3 : ∃ (az : Option Addr) (cz : Nat), (ρ (.tmp 17)) = .slice az v.nr cz ∧ w1.ownsRow W1.heap.size 3 1 (.slice az v.nr cz) v.nr (ints p.rooms) := d3
      obtain ⟨a0, c0, d0, -⟩ := d0
      obtain ⟨a1, c1, d1, -⟩ := d1
      obtain ⟨a2, c2, d2, -⟩ := d2
      obtain ⟨a3, c3, d3, -⟩ := d3
      refine gives_val (u := .agg #[.slice a0 v.ns c0, .slice a1 v.ng c1, .slice a2 v.nb c2, .slice a3 v.nr c3, .slice none 0 0]) (w' := w1) (by go_simp) ⟨Below.refl _ _, ?_, (fun _ hk => by cases hk), hG⟩
      show Value.agg #[.slice a0 v.ns c0, .slice a1 v.ng c1, .slice a2 v.nb c2, .slice a3 v.nr c3, .slice none 0 0] = Value.agg #[(ρ (.tmp 8)), (ρ (.tmp 11)), (ρ (.tmp 14)), (ρ (.tmp 17)), .slice none 0 0]
      rw [d0, d1, d2, d3]
    · intro ρ w1 hG hfr hd
      have fc : ∀ z, ρ (.const z) = z := fun _ => hfr _ rfl
      have ff : ∀ z, ρ (.func z) = .func (.func z) #[] #[] := fun _ => hfr _ rfl
      refine gives_val (u := .pointer (some ⟨w1.heap.size, 0, none⟩)) (w' := w1.alloc (.cells #[.slice none 0 0, .slice none 0 0, .slice none 0 0, .slice none 0 0, .slice none 0 0] 26)) (by go_simp) ⟨(Below.refl _ _).alloc (Nat.le_refl _) _, ⟨_, rfl, Blk.new _ _ _, hG.size⟩, ptBk_new _ _, hG.alloc hG.size _⟩
  intro vs w2 hG hlen hall hap hbd
  obtain ⟨xv0, vs0, rfl, hl0⟩ := len_cons hlen
  obtain ⟨xv1, vs1, rfl, hl1⟩ := len_cons hl0
  obtain ⟨xv2, vs2, rfl, hl2⟩ := len_cons hl1
  obtain ⟨xv3, vs3, rfl, hl3⟩ := len_cons hl2
  obtain ⟨xv4, vs4, rfl, hl4⟩ := len_cons hl3
  obtain ⟨xv5, vs5, rfl, hl5⟩ := len_cons hl4
  obtain ⟨xv6, vs6, rfl, hl6⟩ := len_cons hl5
  obtain ⟨xv7, vs7, rfl, hl7⟩ := len_cons hl6
  obtain ⟨xv8, vs8, rfl, hl8⟩ := len_cons hl7
  obtain ⟨xv9, vs9, rfl, hl9⟩ := len_cons hl8
  obtain ⟨xv10, vs10, rfl, hl10⟩ := len_cons hl9
  obtain ⟨xv11, vs11, rfl, hl11⟩ := len_cons hl10
  obtain ⟨xv12, vs12, rfl, hl12⟩ := len_cons hl11
  obtain ⟨xv13, vs13, rfl, hl13⟩ := len_cons hl12
  obtain rfl := len_nil hl13
  clear hlen hl0 hl1 hl2 hl3 hl4 hl5 hl6 hl7 hl8 hl9 hl10 hl11 hl12 hl13
  simp only [List.take_succ_cons, List.take_zero, List.drop_succ_cons, List.drop_zero] at hall ⊢
  obtain ⟨t0', t1', t2', t3', t4', t5', t6', t7', t8', t9', t10', t11', t12', t13', -⟩ := hall
  have hv0 : xv0 = .pointer (some ⟨w.heap.size, 0, none⟩) := t0'
  have hv1 : xv1 = .slice v.s v.ns v.cs := t1'
  have hv2 : ∃ (az : Option Addr) (cz : Nat), xv2 = .slice az v.ns cz ∧ w2.ownsRow W1.heap.size 3 1 (.slice az v.ns cz) v.ns (ints p.sems) := t2'
  have hv3 : xv3 = .pointer (some ⟨w.heap.size, 1, none⟩) := t3'
  have hv4 : xv4 = .slice v.g v.ng v.cg := t4'
  have hv5 : ∃ (az : Option Addr) (cz : Nat), xv5 = .slice az v.ng cz ∧ w2.ownsRow W1.heap.size 3 1 (.slice az v.ng cz) v.ng (ints p.groups) := t5'
  have hv6 : xv6 = .pointer (some ⟨w.heap.size, 2, none⟩) := t6'
  have hv7 : xv7 = .slice v.b v.nb v.cb := t7'
  have hv8 : ∃ (az : Option Addr) (cz : Nat), xv8 = .slice az v.nb cz ∧ w2.ownsRow W1.heap.size 3 1 (.slice az v.nb cz) v.nb (ints p.barriers) := t8'
  have hv9 : xv9 = .pointer (some ⟨w.heap.size, 3, none⟩) := t9'
  have hv10 : xv10 = .slice v.r v.nr v.cr := t10'
  have hv11 : ∃ (az : Option Addr) (cz : Nat), xv11 = .slice az v.nr cz ∧ w2.ownsRow W1.heap.size 3 1 (.slice az v.nr cz) v.nr (ints p.rooms) := t11'
  have hv12 : xv12 = Value.agg #[xv2, xv5, xv8, xv11, .slice none 0 0] := t12'
  have hv13 : ∃ gz : Nat, xv13 = .pointer (some ⟨gz, 0, none⟩) ∧ Blk w2 gz #[.slice none 0 0, .slice none 0 0, .slice none 0 0, .slice none 0 0, .slice none 0 0] 26 ∧ W1.heap.size ≤ gz := t13'
  clear t0' t1' t2' t3' t4' t5' t6' t7' t8' t9' t10' t11' t12' t13'
  have pv2_5 : ∀ k, (Value.ownBlock) xv2 = some k → (Value.ownBlock) xv5 ≠ some k := hap 2 5 (by simp) (by simp) (by decide)
  have pv2_8 : ∀ k, (Value.ownBlock) xv2 = some k → (Value.ownBlock) xv8 ≠ some k := hap 2 8 (by simp) (by simp) (by decide)
  have pv2_11 : ∀ k, (Value.ownBlock) xv2 = some k → (Value.ownBlock) xv11 ≠ some k := hap 2 11 (by simp) (by simp) (by decide)
  have pv5_8 : ∀ k, (Value.ownBlock) xv5 = some k → (Value.ownBlock) xv8 ≠ some k := hap 5 8 (by simp) (by simp) (by decide)
  have pv5_11 : ∀ k, (Value.ownBlock) xv5 = some k → (Value.ownBlock) xv11 ≠ some k := hap 5 11 (by simp) (by simp) (by decide)
  have pv8_11 : ∀ k, (Value.ownBlock) xv8 = some k → (Value.ownBlock) xv11 ≠ some k := hap 8 11 (by simp) (by simp) (by decide)
  clear hap hbd
  subst hv0 hv1 hv3 hv4 hv6 hv7 hv9 hv10
  obtain ⟨a0, c0, rfl, o0⟩ := hv2
  obtain ⟨a1, c1, rfl, o1⟩ := hv5
  obtain ⟨a2, c2, rfl, o2⟩ := hv8
  obtain ⟨a3, c3, rfl, o3⟩ := hv11
  obtain ⟨G, rfl, kG, hGW⟩ := hv13
  subst hv12
  simp only [putAll, Act.put, List.setIfInBounds_toArray, List.set_cons_succ, List.set_cons_zero]
  have e0 := kG.cell 0 rfl
  have y0 := kG.fz 0
  have e1 := kG.cell 1 rfl
  have y1 := kG.fz 1
  have e2 := kG.cell 2 rfl
  have y2 := kG.fz 2
  have e3 := kG.cell 3 rfl
  have y3 := kG.fz 3
  have e4 := kG.cell 4 rfl
  have y4 := kG.fz 4
  have four : FourF ⟨a0, v.ns, c0, a1, v.ng, c1, a2, v.nb, c2, a3, v.nr, c3, none, 0, 0⟩ := FourF.of pv2_5 pv2_8 pv2_11 pv5_8 pv5_11 pv8_11
  have C0 : CopyAt (((((w2.setCell ⟨G, 0, none⟩ (.slice a0 v.ns c0)).setCell ⟨G, 1, none⟩ (.slice a1 v.ng c1)).setCell ⟨G, 2, none⟩ (.slice a2 v.nb c2)).setCell ⟨G, 3, none⟩ (.slice a3 v.nr c3)).setCell ⟨G, 4, none⟩ (.slice none 0 0)) W1.heap.size G ⟨a0, v.ns, c0, a1, v.ng, c1, a2, v.nb, c2, a3, v.nr, c3, none, 0, 0⟩ [] p 0 := by
    obtain ⟨t1, t2, t3, t4, t5, t6⟩ := types_ne
    have g5 : w2.grownBy (((((w2.setCell ⟨G, 0, none⟩ (.slice a0 v.ns c0)).setCell ⟨G, 1, none⟩ (.slice a1 v.ng c1)).setCell ⟨G, 2, none⟩ (.slice a2 v.nb c2)).setCell ⟨G, 3, none⟩ (.slice a3 v.nr c3)).setCell ⟨G, 4, none⟩ (.slice none 0 0)) (some G) := grown_trans (grown_trans (grown_trans (grown_trans (grown_set _ _ _ _) (grown_set _ _ _ _)) (grown_set _ _ _ _)) (grown_set _ _ _ _)) (grown_set _ _ _ _)
    have far : ∀ {e : TypeId} {sz n' c' B' : Nat} {a' : Option Addr} {xs : List Value}, w2.ownsRow B' e sz (.slice a' n' c') n' xs → 26 ≠ e → ∀ q, rowOf a' = some q → some G = some q → False := by
      intro e sz n' c' B' a' xs ho' hne q hq e'
      cases e'
      exact blk_owns kG ho' hne hq
    refine ⟨?_, owns_grown o0 g5 (far o0 t3), owns_grown o1 g5 (far o1 t3), owns_grown o2 g5 (far o2 t3), owns_grown o3 g5 (far o3 t3), World.ownsRow_nil _ _ _ _, by simpa using Inner.nil _, by simp [fpV], by simp [fpV]⟩
    have := ((((kG.set 0 (.slice a0 v.ns c0)).set 1 (.slice a1 v.ng c1)).set 2 (.slice a2 v.nb c2)).set 3 (.slice a3 v.nr c3)).set 4 (.slice none 0 0)
    simpa using this
  have BB : Below W1.heap.size W1 (((((w2.setCell ⟨G, 0, none⟩ (.slice a0 v.ns c0)).setCell ⟨G, 1, none⟩ (.slice a1 v.ng c1)).setCell ⟨G, 2, none⟩ (.slice a2 v.nb c2)).setCell ⟨G, 3, none⟩ (.slice a3 v.nr c3)).setCell ⟨G, 4, none⟩ (.slice none 0 0)) := ((((hG.setCell hGW _).setCell hGW _).setCell hGW _).setCell hGW _).setCell hGW _
  have HC0 := Lib.hid C0
  have HF := Lib.hid four
  obtain ⟨bt, ot, ea, g1'⟩ := (hr.below B0).thr hne
  have c4 := keepc BB q4
  rw [ea] at c4
  clear C0 four pv2_5 pv2_8 pv2_11 pv5_8 pv5_11 pv8_11 o0 o1 o2 o3
  go_wp2
  obtain ⟨W6, hW6⟩ : ∃ W6 : World, W6 = ((((w2.setCell ⟨G, 0, none⟩ (.slice a0 v.ns c0)).setCell ⟨G, 1, none⟩ (.slice a1 v.ng c1)).setCell ⟨G, 2, none⟩ (.slice a2 v.nb c2)).setCell ⟨G, 3, none⟩ (.slice a3 v.nr c3)).setCell ⟨G, 4, none⟩ (.slice none 0 0) := ⟨_, rfl⟩
  rw [← hW6] at HC0 BB ⊢
  have G1 := Lib.hid g1'
  clear g1' ea c4
  clear hW6 e0 e1 e2 e3 e4 y0 y1 y2 y3 y4 kG hG
  go_loopw [22] (fun i wr => ∃ (j : Nat) (U : PV) (us : List Value), j ≤ v.nt ∧ i = .int .i64 j ∧ Hid (FourF U) ∧ Hid (CopyAt wr W1.heap.size G U us p j) ∧ Below W1.heap.size W1 wr) (fun i _ => v.nt - (intOf i).toNat)
  case atStart => exact ⟨0, _, _, by omega, rfl, HF, HC0, BB⟩
  case round =>
    obtain ⟨j, U, us, hj, rfl, HF1, HC, hb0⟩ := hrel
    by_cases hlt : j < v.nt
    · obtain ⟨a2, x2, g1, r2⟩ := G1.out j (by have := lt.out; omega)
      obtain ⟨m, hm⟩ : ∃ m, m = (p.threads.getD j []).length := ⟨_, rfl⟩
      rw [← hm] at g1
      replace g1 := keepc hb0 g1
      replace r2 := r2.below hb0
      have hmm := Z6.out j
      rw [← hm] at hmm
      have HM := Lib.hid hm
      have e4 : wr.cell? ⟨G, 4, none⟩ = some (.slice U.t U.nt U.ct) := HC.out.blk.cell 4 rfl
      have hun : U.nt = j := by
        have h1 := HC.out.ot.1
        have h2 := HC.out.inn.len
        simp only [List.length_map, List.length_take] at h2
        have := lt.out
        omega
      have HU := Lib.hid hun
      have hun2 : U.nt ≤ 1048576 := by omega
      have HOPS : Hid ((opsV (p.threads.getD j [])).length = m * 3) := Lib.hid (by rw [opsV_len, hm])
      clear hm hun
      go_wp2
      refine wp_region_fresh 5 (by kernel_rfl) (by kernel_rfl) [fun dz uz wz => uz = .pointer (some ⟨G, 4, none⟩), fun dz uz wz => uz = .slice U.t U.nt U.ct, fun dz uz wz => uz = .slice a2 m x2, fun dz uz wz => ∃ (az : Option Addr) (cz : Nat), uz = .slice az m cz ∧ wz.ownsRow wr.heap.size 44 3 (.slice az m cz) m (opsV (p.threads.getD j [])) ∧ (m = 0 → cz = 0), fun dz uz wz => ∃ gz : Nat, uz = .slice (some ⟨gz, 0, none⟩) 1 1 ∧ Blk wz gz #[(dz.getD 0 undef)] 34 ∧ wr.heap.size ≤ gz] (fun i => match i with | _ => fun _ => none) (fun w' => Below wr.heap.size wr w') (Below.refl _ _).drew (stab_of ⟨fun _ _ _ _ _ h => h, fun _ _ _ _ _ h => h, fun _ _ _ _ _ h => h, fun _ _ _ _ hb ⟨a, c, e, h, h0⟩ => ⟨a, c, e, owns_below h hb, h0⟩, fun _ _ _ _ hb ⟨g, e, h, hs⟩ => ⟨g, e, h.below hb, hs⟩, trivial⟩) ?_ ?_
      · simp only [List.take_succ_cons, List.take_zero]
        refine ⟨?_, ?_, ?_, ?_, ?_, trivial⟩
        · intro ρ w1 hG hfr hd
          have fc : ∀ z, ρ (.const z) = z := fun _ => hfr _ rfl
          have ff : ∀ z, ρ (.func z) = .func (.func z) #[] #[] := fun _ => hfr _ rfl
          have f3 : ρ (.tmp 3) = .pointer (some ⟨G, 0, none⟩) := hfr _ rfl
          refine gives_val (u := .pointer (some ⟨G, 4, none⟩)) (w' := w1) (by go_simp) ⟨Below.refl _ _, rfl, (fun _ hk => by cases hk), hG⟩
        · intro ρ w1 hG hfr hd
          have fc : ∀ z, ρ (.const z) = z := fun _ => hfr _ rfl
          have ff : ∀ z, ρ (.func z) = .func (.func z) #[] #[] := fun _ => hfr _ rfl
          obtain ⟨d0, -⟩ := hd
          have d0 : (ρ (.tmp 26)) = .pointer (some ⟨G, 4, none⟩) := d0
          have e4 := keepc hG e4
          refine gives_val (u := .slice U.t U.nt U.ct) (w' := w1) (by go_simp) ⟨Below.refl _ _, rfl, (fun _ hk => by cases hk), hG⟩
        · intro ρ w1 hG hfr hd
          have fc : ∀ z, ρ (.const z) = z := fun _ => hfr _ rfl
          have ff : ∀ z, ρ (.func z) = .func (.func z) #[] #[] := fun _ => hfr _ rfl
          have f5 : ρ (.tmp 5) = .slice a2 m x2 := hfr _ rfl
          refine gives_val (u := .slice a2 m x2) (w' := w1) (by go_simp) ⟨Below.refl _ _, rfl, (fun _ hk => by cases hk), hG⟩
        · intro ρ w1 hG hfr hd
          have fc : ∀ z, ρ (.const z) = z := fun _ => hfr _ rfl
          have ff : ∀ z, ρ (.func z) = .func (.func z) #[] #[] := fun _ => hfr _ rfl
          obtain ⟨d0, -⟩ := hd
          have d0 : (ρ (.tmp 28)) = .slice a2 m x2 := d0
          refine gives_append_new _ _ 34 rfl Try.underlying34 info_op rfl (by decide) (fc _) (World.ownsRow_nil _ wr.heap.size _ _) d0 HOPS.out (r2.below hG) (opsV_one _) (by omega) (by decide) hG.size ?_
          intro a c w2 hown hb hf h0
          exact ⟨hb, ⟨a, c, rfl, hown, h0⟩, (fun _ hk => by cases hk), hG.trans (hb.mono hG.size)⟩
        · intro ρ w1 hG hfr hd
          have fc : ∀ z, ρ (.const z) = z := fun _ => hfr _ rfl
          have ff : ∀ z, ρ (.func z) = .func (.func z) #[] #[] := fun _ => hfr _ rfl
          obtain ⟨d0, -⟩ := hd
          have d0 : ∃ (az : Option Addr) (cz : Nat), (ρ (.tmp 29)) = .slice az m cz ∧ w1.ownsRow wr.heap.size 44 3 (.slice az m cz) m (opsV (p.threads.getD j [])) ∧ (m = 0 → cz = 0) := d0
          obtain ⟨a, c, d0, -, -⟩ := d0
          refine gives_val (u := .slice (some ⟨w1.heap.size, 0, none⟩) 1 1) (w' := w1.alloc (.cells #[.slice a m c] 34)) (by go_simp) ⟨(Below.refl _ _).alloc (Nat.le_refl _) _, ⟨_, rfl, ?_, hG.size⟩, (fun _ hk => by cases hk), hG.alloc hG.size _⟩
          show Blk _ _ #[(ρ (.tmp 29))] _
          rw [d0]
          exact Blk.new _ _ _
      intro vs w2 hG hlen hall hap hbd
      obtain ⟨xv0, vs0, rfl, hl0⟩ := len_cons hlen
      obtain ⟨xv1, vs1, rfl, hl1⟩ := len_cons hl0
      obtain ⟨xv2, vs2, rfl, hl2⟩ := len_cons hl1
      obtain ⟨xv3, vs3, rfl, hl3⟩ := len_cons hl2
      obtain ⟨xv4, vs4, rfl, hl4⟩ := len_cons hl3
      obtain rfl := len_nil hl4
      clear hlen hl0 hl1 hl2 hl3 hl4
      simp only [List.take_succ_cons, List.take_zero, List.drop_succ_cons, List.drop_zero] at hall ⊢
      obtain ⟨t0', t1', t2', t3', t4', -⟩ := hall
      have hv0 : xv0 = .pointer (some ⟨G, 4, none⟩) := t0'
      have hv1 : xv1 = .slice U.t U.nt U.ct := t1'
      have hv2 : xv2 = .slice a2 m x2 := t2'
      have hv3 : ∃ (az : Option Addr) (cz : Nat), xv3 = .slice az m cz ∧ w2.ownsRow wr.heap.size 44 3 (.slice az m cz) m (opsV (p.threads.getD j [])) ∧ (m = 0 → cz = 0) := t3'
      have hv4 : ∃ gz : Nat, xv4 = .slice (some ⟨gz, 0, none⟩) 1 1 ∧ Blk w2 gz #[xv3] 34 ∧ wr.heap.size ≤ gz := t4'
      clear t0' t1' t2' t3' t4'
      clear hap hbd
      subst hv0 hv1 hv2
      obtain ⟨a3, c3, rfl, o3, z3⟩ := hv3
      obtain ⟨g9, rfl, k9, hg9⟩ := hv4
      simp only [putAll, Act.put, List.setIfInBounds_toArray, List.set_cons_succ, List.set_cons_zero]
      have HC2 := HC.out.below hG
      have e4' := keepc hG e4
      have y4 : w2.frozen? ⟨G, 4, none⟩ = false := HC2.blk.fz 4
      have hB : W1.heap.size ≤ w2.heap.size := Nat.le_trans hb0.size hG.size
      have hin : ∀ q, rowOf a3 = some q → W1.heap.size ≤ q ∧ q ∉ fpV us := fun q hq => ⟨Nat.le_trans hb0.size (owns_row o3 q hq).1, fun hm => by have h1 := HC.out.inn.lt q hm; have h2 := (owns_row o3 q hq).1; omega⟩
      have HIN := Lib.hid hin
      have HO3 := Lib.hid o3
      have HCC := Lib.hid HC2
      have hot := HC2.ot
      clear hin o3 HC2
      go_wp2_with (at_builtin; refine wpList_append_rd (news := [.slice a3 m c3]) rfl _ _ 24 rfl Try.underlying24 info_ops rfl (by decide) rfl hot rfl rfl (Rd.of_blk k9) (by simp [Value.oneCell']) (by omega) (by decide) hB ?_; intro a4 c4' w3 hown1 hgr1; have hx4 := keepg hgr1 e4' (blk_owns HCC.out.blk hot types_ne.2.2.2.1); have hy4 := (HCC.out.blk.grown hgr1 (blk_owns HCC.out.blk hot types_ne.2.2.2.1)).fz 4)
      go_roundw
      case rel =>
        refine ⟨j + 1, U.thr a4 (U.nt + 1) c4', us ++ [.slice a3 m c3], by omega, by go_num, Lib.hid (HF1.out.thr _ _ _), Lib.hid ?_, ?_⟩
        · exact HCC.out.step (by have := lt.out; omega) (owns_mono HO3.out (Nat.zero_le _)) HIN.out hown1 hgr1
        · exact (((hb0.trans (hG.mono hb0.size)).trans (below_of_grown hgr1 hB (fun q hq => (owns_row hot q hq).1))).setCell hGW _)
      case measure => simp [intOf]; omega
    · have hkm : v.nt = j := by omega
      subst hkm
      have HO := Lib.hid (HC.out.own lt.out.symm)
      have HFR := Lib.hid HC.out.fresh
      have hun : U.nt = v.nt := by
        have h1 := HC.out.ot.1
        have h2 := HC.out.inn.len
        simp only [List.length_map, List.length_take] at h2
        have := lt.out
        omega
      have e0 := HC.out.blk.cell 0 rfl
      have e1 := HC.out.blk.cell 1 rfl
      have e2 := HC.out.blk.cell 2 rfl
      have e3 := HC.out.blk.cell 3 rfl
      have e4 := HC.out.blk.cell 4 rfl
      have kR2 := kR.below hb0
      have y0 := kR2.cell 0 rfl
      have y1 := kR2.cell 1 rfl
      have y2 := kR2.cell 2 rfl
      have y3 := kR2.cell 3 rfl
      have y4 := kR2.cell 4 rfl
      have x0 := kR2.fz 0
      have x1 := kR2.fz 1
      have x2 := kR2.fz 2
      have x3 := kR2.fz 3
      have x4 := kR2.fz 4
      have BE := B0.trans (hb0.mono B0.size)
      clear kR2 hun
      go_wp2
      refine bodyPost_ret (v := .agg #[.slice U.s U.ns U.cs, .slice U.g U.ng U.cg, .slice U.b U.nb U.cb, .slice U.r U.nr U.cr, .slice U.t U.nt U.ct]) (by simp [results, Try.results83, go_sem, y0, y1, y2, y3, y4]) rfl ⟨U, us, rfl, ?_, HC.out.nodup HF1.out, fun q hq => Nat.le_trans B0.size (HFR.out q hq), ?_⟩
      · refine HO.out.touch (S := [w.heap.size + 1]) ?_ (fun q hq hm => by have := HFR.out q hq; simp at hm; omega)
        exact Touch.set (Touch.set (Touch.set (Touch.set (Touch.set (Touch.refl _ _) (by simp)) (by simp)) (by simp)) (by simp)) (by simp)
      · exact ((((BE.setCell (Nat.le_add_right _ _) _).setCell (Nat.le_add_right _ _) _).setCell (Nat.le_add_right _ _) _).setCell (Nat.le_add_right _ _) _).setCell (Nat.le_add_right _ _) _

end Go.Proofs.Ytnobkdkfhgjeeab
