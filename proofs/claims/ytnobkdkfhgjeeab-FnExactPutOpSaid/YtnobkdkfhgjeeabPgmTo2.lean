/- The statements' own copy of a program: toProg. -/
import Derived.Test.YtnobkdkfhgjeeabPgmTo
namespace Go.Proofs.Ytnobkdkfhgjeeab
open Go.RowKit

theorem Touch.set {S : List Nat} {a w : World} (h : Touch S a w) {b j : Nat} {v : Value} (hb : b ∈ S) : Touch S a (w.setCell ⟨b, j, none⟩ v) :=
  h.trans ⟨rfl, rfl, rfl, by simp, fun k _ hn => Below.heap_setCell _ _ _ _ (fun e => hn (by rw [e]; exact hb))⟩

theorem nodup_opt {o : Option Nat} {l : List Nat} (h : l.Nodup) (hk : ∀ k, o = some k → k ∉ l) : (o.toList ++ l).Nodup := by
  cases o with
  | none => simpa using h
  | some k =>
    rw [Option.toList_some, List.singleton_append, List.nodup_cons]
    exact ⟨hk k rfl, h⟩

set_option maxHeartbeats 1000000 in
theorem toProg_any (v : PV) (p : Pg) (w : World) (hr : RdP w v p) (hs : v.ns ≤ 1048576 ∧ v.ng ≤ 1048576 ∧ v.nb ≤ 1048576 ∧ v.nr ≤ 1048576 ∧ v.nt ≤ 1048576) (hin : ∀ i, (p.threads.getD i []).length ≤ 1099511627776) :
    Calls Try.prog 18 #[.agg #[.slice v.s v.ns v.cs, .slice v.g v.ng v.cg, .slice v.b v.nb v.cb, .slice v.r v.nr v.cr, .slice v.t v.nt v.ct]] w fun e w' => ∃ (v' : PV) (vs : List Value), e = .returned (.agg #[.slice v'.s v'.ns v'.cs, .slice v'.g v'.ng v'.cg, .slice v'.b v'.nb v'.cb, .slice v'.r v'.nr v'.cr, .slice v'.t v'.nt v'.ct]) ∧ OwnP w' v' vs p.cells ∧ (fpP v' vs).Nodup ∧ (∀ k ∈ fpP v' vs, w.heap.size ≤ k) ∧ Below w.heap.size w w' := by
  obtain ⟨z1, z2, z3, z4, z5⟩ := hs
  have L1 := Lib.hid hr.ls
  have L2 := Lib.hid hr.lg
  have L3 := Lib.hid hr.lb
  have L4 := Lib.hid hr.lr
  have L5 := Lib.hid hr.lt
  have HI := Lib.hid hin
  obtain ⟨us, hus⟩ := hr.rt
  have h1 := hr.rs
  have h2 := hr.rg
  have h3 := hr.rb
  have h4 := hr.rr
  clear hr hin
  have b0 : Below w.heap.size w (((w.alloc (.cells #[.slice v.s v.ns v.cs, .slice v.g v.ng v.cg, .slice v.b v.nb v.cb, .slice v.r v.nr v.cr, .slice v.t v.nt v.ct] 38)).alloc (.cells #[.slice none 0 0, .slice none 0 0, .slice none 0 0, .slice none 0 0, .slice none 0 0] 26)).alloc (.cells #[.slice none 0 0, .slice none 0 0, .slice none 0 0, .slice none 0 0, .slice none 0 0] 26)) := (((Below.refl _ _).alloc (Nat.le_refl _) _).alloc (by simp) _).alloc (by simp; omega) _
  go_enter Try.func18, Try.ntmps18
  go_wp2_with fail
  have kA0 : Blk (((w.alloc (.cells #[.slice v.s v.ns v.cs, .slice v.g v.ng v.cg, .slice v.b v.nb v.cb, .slice v.r v.nr v.cr, .slice v.t v.nt v.ct] 38)).alloc (.cells #[.slice none 0 0, .slice none 0 0, .slice none 0 0, .slice none 0 0, .slice none 0 0] 26)).alloc (.cells #[.slice none 0 0, .slice none 0 0, .slice none 0 0, .slice none 0 0, .slice none 0 0] 26)) w.heap.size #[.slice v.s v.ns v.cs, .slice v.g v.ng v.cg, .slice v.b v.nb v.cb, .slice v.r v.nr v.cr, .slice v.t v.nt v.ct] 38 := ((Blk.new _ _ _).alloc _).alloc _
  have kR0 : Blk (((w.alloc (.cells #[.slice v.s v.ns v.cs, .slice v.g v.ng v.cg, .slice v.b v.nb v.cb, .slice v.r v.nr v.cr, .slice v.t v.nt v.ct] 38)).alloc (.cells #[.slice none 0 0, .slice none 0 0, .slice none 0 0, .slice none 0 0, .slice none 0 0] 26)).alloc (.cells #[.slice none 0 0, .slice none 0 0, .slice none 0 0, .slice none 0 0, .slice none 0 0] 26)) (w.heap.size + 1) #[.slice none 0 0, .slice none 0 0, .slice none 0 0, .slice none 0 0, .slice none 0 0] 26 := by simpa using (Blk.new (w.alloc (.cells #[.slice v.s v.ns v.cs, .slice v.g v.ng v.cg, .slice v.b v.nb v.cb, .slice v.r v.nr v.cr, .slice v.t v.nt v.ct] 38)) #[.slice none 0 0, .slice none 0 0, .slice none 0 0, .slice none 0 0, .slice none 0 0] 26).alloc (.cells #[.slice none 0 0, .slice none 0 0, .slice none 0 0, .slice none 0 0, .slice none 0 0] 26)
  have kO0 : Blk (((w.alloc (.cells #[.slice v.s v.ns v.cs, .slice v.g v.ng v.cg, .slice v.b v.nb v.cb, .slice v.r v.nr v.cr, .slice v.t v.nt v.ct] 38)).alloc (.cells #[.slice none 0 0, .slice none 0 0, .slice none 0 0, .slice none 0 0, .slice none 0 0] 26)).alloc (.cells #[.slice none 0 0, .slice none 0 0, .slice none 0 0, .slice none 0 0, .slice none 0 0] 26)) (w.heap.size + 1 + 1) #[.slice none 0 0, .slice none 0 0, .slice none 0 0, .slice none 0 0, .slice none 0 0] 26 := by simpa using Blk.new ((w.alloc (.cells #[.slice v.s v.ns v.cs, .slice v.g v.ng v.cg, .slice v.b v.nb v.cb, .slice v.r v.nr v.cr, .slice v.t v.nt v.ct] 38)).alloc (.cells #[.slice none 0 0, .slice none 0 0, .slice none 0 0, .slice none 0 0, .slice none 0 0] 26)) #[.slice none 0 0, .slice none 0 0, .slice none 0 0, .slice none 0 0, .slice none 0 0] 26
  have hz0 : w.heap.size + 3 ≤ (((w.alloc (.cells #[.slice v.s v.ns v.cs, .slice v.g v.ng v.cg, .slice v.b v.nb v.cb, .slice v.r v.nr v.cr, .slice v.t v.nt v.ct] 38)).alloc (.cells #[.slice none 0 0, .slice none 0 0, .slice none 0 0, .slice none 0 0, .slice none 0 0] 26)).alloc (.cells #[.slice none 0 0, .slice none 0 0, .slice none 0 0, .slice none 0 0, .slice none 0 0] 26)).heap.size := by simp
  refine (toIntS_any v.ns v.cs v.s p.sems _ L1.out (by omega) (h1.below b0)).mono ?_
  rintro e w1 ⟨a1, c1, rfl, o1, b1⟩
  have hs1 := b1.size
  have kA1 := kA0.below b1
  have kR1 := kR0.below b1
  have kO1' := kO0.below b1
  have r1 := owns_row o1
  have q1a := kO1'.cell 0 rfl
  have q1b := kO1'.fz 0
  have q1c := kA1.cell 1 rfl
  have t1 : Below w.heap.size w1 (w1.setCell ⟨w.heap.size + 1 + 1, 0, none⟩ (.slice a1 v.ns c1)) := (Below.refl _ _).setCell (by simp; omega) _
  have hb1 := hz0
  have B1 : Below w.heap.size w (w1.setCell ⟨w.heap.size + 1 + 1, 0, none⟩ (.slice a1 v.ns c1)) := (b0.trans (b1.mono (by omega))).trans t1
  replace kA1 := kA1.other ⟨w.heap.size + 1 + 1, 0, none⟩ (.slice a1 v.ns c1) (by simp; omega)
  replace kR1 := kR1.other ⟨w.heap.size + 1 + 1, 0, none⟩ (.slice a1 v.ns c1) (by simp)
  have kO1 : Blk (w1.setCell ⟨w.heap.size + 1 + 1, 0, none⟩ (.slice a1 v.ns c1)) (w.heap.size + 1 + 1) #[.slice a1 v.ns c1, .slice none 0 0, .slice none 0 0, .slice none 0 0, .slice none 0 0] 26 := kO1'.set 0 (.slice a1 v.ns c1)
  have g1 : w1.grownBy (w1.setCell ⟨w.heap.size + 1 + 1, 0, none⟩ (.slice a1 v.ns c1)) (some (w.heap.size + 1 + 1)) := ⟨rfl, rfl, rfl, by simp, fun x _ hx => Below.heap_setCell _ _ _ _ (fun e => hx (by rw [e]))⟩
  replace o1 := owns_grown o1 g1 (fun x e1 e2 => by cases e2; have := owns_row o1 _ e1; omega)
  have hz1 : w.heap.size + 3 ≤ (w1.setCell ⟨w.heap.size + 1 + 1, 0, none⟩ (.slice a1 v.ns c1)).heap.size := by simp; omega
  clear kO1' g1
  go_wp2_with fail
  refine (toIntS_any v.ng v.cg v.g p.groups _ L2.out (by omega) (h2.below B1)).mono ?_
  rintro e w2 ⟨a2, c2, rfl, o2, b2⟩
  have hs2 := b2.size
  have kA2 := kA1.below b2
  have kR2 := kR1.below b2
  have kO2' := kO1.below b2
  replace o1 := owns_below o1 b2
  have r2 := owns_row o2
  have q2a := kO2'.cell 1 rfl
  have q2b := kO2'.fz 1
  have q2c := kA2.cell 2 rfl
  have t2 : Below w.heap.size w2 (w2.setCell ⟨w.heap.size + 1 + 1, 1, none⟩ (.slice a2 v.ng c2)) := (Below.refl _ _).setCell (by simp; omega) _
  have hb2 := hz1
  have B2 : Below w.heap.size w (w2.setCell ⟨w.heap.size + 1 + 1, 1, none⟩ (.slice a2 v.ng c2)) := (B1.trans (b2.mono (by omega))).trans t2
  replace kA2 := kA2.other ⟨w.heap.size + 1 + 1, 1, none⟩ (.slice a2 v.ng c2) (by simp; omega)
  replace kR2 := kR2.other ⟨w.heap.size + 1 + 1, 1, none⟩ (.slice a2 v.ng c2) (by simp)
  have kO2 : Blk (w2.setCell ⟨w.heap.size + 1 + 1, 1, none⟩ (.slice a2 v.ng c2)) (w.heap.size + 1 + 1) #[.slice a1 v.ns c1, .slice a2 v.ng c2, .slice none 0 0, .slice none 0 0, .slice none 0 0] 26 := kO2'.set 1 (.slice a2 v.ng c2)
  have g2 : w2.grownBy (w2.setCell ⟨w.heap.size + 1 + 1, 1, none⟩ (.slice a2 v.ng c2)) (some (w.heap.size + 1 + 1)) := ⟨rfl, rfl, rfl, by simp, fun x _ hx => Below.heap_setCell _ _ _ _ (fun e => hx (by rw [e]))⟩
  replace o1 := owns_grown o1 g2 (fun x e1 e2 => by cases e2; have := owns_row o1 _ e1; omega)
  replace o2 := owns_grown o2 g2 (fun x e1 e2 => by cases e2; have := owns_row o2 _ e1; omega)
  have hz2 : w.heap.size + 3 ≤ (w2.setCell ⟨w.heap.size + 1 + 1, 1, none⟩ (.slice a2 v.ng c2)).heap.size := by simp; omega
  clear kO2' g2
  go_wp2_with fail
  refine (toIntS_any v.nb v.cb v.b p.barriers _ L3.out (by omega) (h3.below B2)).mono ?_
  rintro e w3 ⟨a3, c3, rfl, o3, b3⟩
  have hs3 := b3.size
  have kA3 := kA2.below b3
  have kR3 := kR2.below b3
  have kO3' := kO2.below b3
  replace o1 := owns_below o1 b3
  replace o2 := owns_below o2 b3
  have r3 := owns_row o3
  have q3a := kO3'.cell 2 rfl
  have q3b := kO3'.fz 2
  have q3c := kA3.cell 3 rfl
  have t3 : Below w.heap.size w3 (w3.setCell ⟨w.heap.size + 1 + 1, 2, none⟩ (.slice a3 v.nb c3)) := (Below.refl _ _).setCell (by simp; omega) _
  have hb3 := hz2
  have B3 : Below w.heap.size w (w3.setCell ⟨w.heap.size + 1 + 1, 2, none⟩ (.slice a3 v.nb c3)) := (B2.trans (b3.mono (by omega))).trans t3
  replace kA3 := kA3.other ⟨w.heap.size + 1 + 1, 2, none⟩ (.slice a3 v.nb c3) (by simp; omega)
  replace kR3 := kR3.other ⟨w.heap.size + 1 + 1, 2, none⟩ (.slice a3 v.nb c3) (by simp)
  have kO3 : Blk (w3.setCell ⟨w.heap.size + 1 + 1, 2, none⟩ (.slice a3 v.nb c3)) (w.heap.size + 1 + 1) #[.slice a1 v.ns c1, .slice a2 v.ng c2, .slice a3 v.nb c3, .slice none 0 0, .slice none 0 0] 26 := kO3'.set 2 (.slice a3 v.nb c3)
  have g3 : w3.grownBy (w3.setCell ⟨w.heap.size + 1 + 1, 2, none⟩ (.slice a3 v.nb c3)) (some (w.heap.size + 1 + 1)) := ⟨rfl, rfl, rfl, by simp, fun x _ hx => Below.heap_setCell _ _ _ _ (fun e => hx (by rw [e]))⟩
  replace o1 := owns_grown o1 g3 (fun x e1 e2 => by cases e2; have := owns_row o1 _ e1; omega)
  replace o2 := owns_grown o2 g3 (fun x e1 e2 => by cases e2; have := owns_row o2 _ e1; omega)
  replace o3 := owns_grown o3 g3 (fun x e1 e2 => by cases e2; have := owns_row o3 _ e1; omega)
  have hz3 : w.heap.size + 3 ≤ (w3.setCell ⟨w.heap.size + 1 + 1, 2, none⟩ (.slice a3 v.nb c3)).heap.size := by simp; omega
  clear kO3' g3
  go_wp2_with fail
  refine (toIntS_any v.nr v.cr v.r p.rooms _ L4.out (by omega) (h4.below B3)).mono ?_
  rintro e w4 ⟨a4, c4, rfl, o4, b4⟩
  have hs4 := b4.size
  have kA4 := kA3.below b4
  have kR4 := kR3.below b4
  have kO4' := kO3.below b4
  replace o1 := owns_below o1 b4
  replace o2 := owns_below o2 b4
  replace o3 := owns_below o3 b4
  have r4 := owns_row o4
  have q4a := kO4'.cell 3 rfl
  have q4b := kO4'.fz 3
  have q4c := kA4.cell 4 rfl
  have t4 : Below w.heap.size w4 (w4.setCell ⟨w.heap.size + 1 + 1, 3, none⟩ (.slice a4 v.nr c4)) := (Below.refl _ _).setCell (by simp; omega) _
  have hb4 := hz3
  have B4 : Below w.heap.size w (w4.setCell ⟨w.heap.size + 1 + 1, 3, none⟩ (.slice a4 v.nr c4)) := (B3.trans (b4.mono (by omega))).trans t4
  replace kA4 := kA4.other ⟨w.heap.size + 1 + 1, 3, none⟩ (.slice a4 v.nr c4) (by simp; omega)
  replace kR4 := kR4.other ⟨w.heap.size + 1 + 1, 3, none⟩ (.slice a4 v.nr c4) (by simp)
  have kO4 : Blk (w4.setCell ⟨w.heap.size + 1 + 1, 3, none⟩ (.slice a4 v.nr c4)) (w.heap.size + 1 + 1) #[.slice a1 v.ns c1, .slice a2 v.ng c2, .slice a3 v.nb c3, .slice a4 v.nr c4, .slice none 0 0] 26 := kO4'.set 3 (.slice a4 v.nr c4)
  have g4 : w4.grownBy (w4.setCell ⟨w.heap.size + 1 + 1, 3, none⟩ (.slice a4 v.nr c4)) (some (w.heap.size + 1 + 1)) := ⟨rfl, rfl, rfl, by simp, fun x _ hx => Below.heap_setCell _ _ _ _ (fun e => hx (by rw [e]))⟩
  replace o1 := owns_grown o1 g4 (fun x e1 e2 => by cases e2; have := owns_row o1 _ e1; omega)
  replace o2 := owns_grown o2 g4 (fun x e1 e2 => by cases e2; have := owns_row o2 _ e1; omega)
  replace o3 := owns_grown o3 g4 (fun x e1 e2 => by cases e2; have := owns_row o3 _ e1; omega)
  replace o4 := owns_grown o4 g4 (fun x e1 e2 => by cases e2; have := owns_row o4 _ e1; omega)
  have hz4 : w.heap.size + 3 ≤ (w4.setCell ⟨w.heap.size + 1 + 1, 3, none⟩ (.slice a4 v.nr c4)).heap.size := by simp; omega
  clear kO4' g4
  go_wp2_with fail
  refine (toOpSS_any v.nt v.ct v.t p.threads us _ L5.out (by omega) HI.out (hus.below B4)).mono ?_
  rintro e w5 ⟨a5, c5, vs, rfl, o5, nd5, lo5, b5⟩
  have hs5 := b5.size
  have kA5 := kA4.below b5
  have kR5 := kR4.below b5
  have kO5' := kO4.below b5
  replace o1 := owns_below o1 b5
  replace o2 := owns_below o2 b5
  replace o3 := owns_below o3 b5
  replace o4 := owns_below o4 b5
  have q5a := kO5'.cell 4 rfl
  have q5b := kO5'.fz 4
  have x0 := kO5'.cell 0 rfl
  have x1 := kO5'.cell 1 rfl
  have x2 := kO5'.cell 2 rfl
  have x3 := kO5'.cell 3 rfl
  have y0 := kR5.cell 0 rfl
  have f0 := kR5.fz 0
  have y1 := kR5.cell 1 rfl
  have f1 := kR5.fz 1
  have y2 := kR5.cell 2 rfl
  have f2 := kR5.fz 2
  have y3 := kR5.cell 3 rfl
  have f3 := kR5.fz 3
  have y4 := kR5.cell 4 rfl
  have f4 := kR5.fz 4
  have t5 : Below w.heap.size w5 (w5.setCell ⟨w.heap.size + 1 + 1, 4, none⟩ (.slice a5 v.nt c5)) := (Below.refl _ _).setCell (by simp; omega) _
  have hb5 := hz4
  have B5 : Below w.heap.size w (w5.setCell ⟨w.heap.size + 1 + 1, 4, none⟩ (.slice a5 v.nt c5)) := (B4.trans (b5.mono (by omega))).trans t5
  replace kA5 := kA5.other ⟨w.heap.size + 1 + 1, 4, none⟩ (.slice a5 v.nt c5) (by simp; omega)
  replace kR5 := kR5.other ⟨w.heap.size + 1 + 1, 4, none⟩ (.slice a5 v.nt c5) (by simp)
  have kO5 : Blk (w5.setCell ⟨w.heap.size + 1 + 1, 4, none⟩ (.slice a5 v.nt c5)) (w.heap.size + 1 + 1) #[.slice a1 v.ns c1, .slice a2 v.ng c2, .slice a3 v.nb c3, .slice a4 v.nr c4, .slice a5 v.nt c5] 26 := kO5'.set 4 (.slice a5 v.nt c5)
  have g5 : w5.grownBy (w5.setCell ⟨w.heap.size + 1 + 1, 4, none⟩ (.slice a5 v.nt c5)) (some (w.heap.size + 1 + 1)) := ⟨rfl, rfl, rfl, by simp, fun x _ hx => Below.heap_setCell _ _ _ _ (fun e => hx (by rw [e]))⟩
  replace o1 := owns_grown o1 g5 (fun x e1 e2 => by cases e2; have := owns_row o1 _ e1; omega)
  replace o2 := owns_grown o2 g5 (fun x e1 e2 => by cases e2; have := owns_row o2 _ e1; omega)
  replace o3 := owns_grown o3 g5 (fun x e1 e2 => by cases e2; have := owns_row o3 _ e1; omega)
  replace o4 := owns_grown o4 g5 (fun x e1 e2 => by cases e2; have := owns_row o4 _ e1; omega)
  have o5' := o5.touch (Touch.of_grown (S := [w.heap.size + 1 + 1]) g5 (by simp)) (fun x hx hm => by have := lo5 x hx; simp at hm; omega)
  have hz5 : w.heap.size + 3 ≤ (w5.setCell ⟨w.heap.size + 1 + 1, 4, none⟩ (.slice a5 v.nt c5)).heap.size := by simp; omega
  clear kO5' g5
  have HO : OwnP (w5.setCell ⟨w.heap.size + 1 + 1, 4, none⟩ (.slice a5 v.nt c5)) ⟨a1, v.ns, c1, a2, v.ng, c2, a3, v.nb, c3, a4, v.nr, c4, a5, v.nt, c5⟩ vs p.cells := ⟨owns_mono o1 (Nat.zero_le _), owns_mono o2 (Nat.zero_le _), owns_mono o3 (Nat.zero_le _), owns_mono o4 (Nat.zero_le _), o5'⟩
  have hlo : ∀ k ∈ fpP ⟨a1, v.ns, c1, a2, v.ng, c2, a3, v.nb, c3, a4, v.nr, c4, a5, v.nt, c5⟩ vs, w.heap.size + 3 ≤ k := by
    intro k hk
    unfold fpP at hk
    simp only [List.mem_append, Option.mem_toList] at hk
    simp only [World.size_setCell, World.size_alloc] at r1 r2 r3 r4 lo5 hz1 hz2 hz3 hz4 hz5
    rcases hk with hk | hk | hk | hk | hk
    · have := r1 k hk; omega
    · have := r2 k hk; omega
    · have := r3 k hk; omega
    · have := r4 k hk; omega
    · have := lo5 k hk; omega
  have hnd : (fpP ⟨a1, v.ns, c1, a2, v.ng, c2, a3, v.nb, c3, a4, v.nr, c4, a5, v.nt, c5⟩ vs).Nodup := by
    unfold fpP
    simp only [World.size_setCell, World.size_alloc] at r1 r2 r3 r4 lo5 hs2 hs3 hs4 hs5
    refine nodup_opt ?_ (fun k hk hm => ?_)
    rotate_left
    · simp only [List.mem_append, Option.mem_toList] at hm
      have := r1 k hk
      rcases hm with hm | hm | hm | hm
      · have := r2 k hm; omega
      · have := r3 k hm; omega
      · have := r4 k hm; omega
      · have := lo5 k hm; omega
    refine nodup_opt ?_ (fun k hk hm => ?_)
    rotate_left
    · simp only [List.mem_append, Option.mem_toList] at hm
      have := r2 k hk
      rcases hm with hm | hm | hm
      · have := r3 k hm; omega
      · have := r4 k hm; omega
      · have := lo5 k hm; omega
    refine nodup_opt ?_ (fun k hk hm => ?_)
    rotate_left
    · simp only [List.mem_append, Option.mem_toList] at hm
      have := r3 k hk
      rcases hm with hm | hm
      · have := r4 k hm; omega
      · have := lo5 k hm; omega
    refine nodup_opt ?_ (fun k hk hm => ?_)
    rotate_left
    · skip
      have := r4 k hk
      have := lo5 k hm; omega
    exact nd5
  have HH := Lib.hid HO
  have HLO := Lib.hid hlo
  have HND := Lib.hid hnd
  clear HO hlo hnd lo5 nd5 o5' o5 o1 o2 o3 o4 r1 r2 r3 r4 kA1 kA2 kA3 kA4 kA5 kR1 kR2 kR3 kR4 kR5 kO1 kO2 kO3 kO4 kO5 kA0 kR0 kO0
  go_wp2
  refine bodyPost_ret (v := .agg #[.slice a1 v.ns c1, .slice a2 v.ng c2, .slice a3 v.nb c3, .slice a4 v.nr c4, .slice a5 v.nt c5]) (by simp [results, Try.results18, go_sem, y0, y1, y2, y3, y4]) rfl ⟨⟨a1, v.ns, c1, a2, v.ng, c2, a3, v.nb, c3, a4, v.nr, c4, a5, v.nt, c5⟩, vs, rfl, ?_, HND.out, fun k hk => by have := HLO.out k hk; omega, ?_⟩
  · refine HH.out.touch (S := [w.heap.size + 1]) ?_ (fun k hk hm => by have := HLO.out k hk; simp at hm; omega)
    exact Touch.set (Touch.set (Touch.set (Touch.set (Touch.set (Touch.refl _ _) (by simp)) (by simp)) (by simp)) (by simp)) (by simp)
  · exact ((((B5.setCell (Nat.le_add_right _ _) _).setCell (Nat.le_add_right _ _) _).setCell (Nat.le_add_right _ _) _).setCell (Nat.le_add_right _ _) _).setCell (Nat.le_add_right _ _) _

end Go.Proofs.Ytnobkdkfhgjeeab
