/- The draw DrawProgSame. -/
import Derived.Test.YtnobkdkfhgjeeabDoorRegRd
namespace Go.Proofs.YtnobkdkfhgjeeabDoor
open Go.RowKit

set_option maxRecDepth 100000 in
set_option maxHeartbeats 8000000 in
theorem drawProgSame_any (a : Option Addr) (n c : Nat) (bs : List Int) (w : World) (hC : Code13 w a n c bs) :
    Calls Tryd.prog 12 #[.slice a n c] w fun e w' => ∃ (v : PV) (p : Pg) (u : PV) (q : Pg), e = .returned (.tuple #[.agg #[.slice v.s v.ns v.cs, .slice v.g v.ng v.cg, .slice v.b v.nb v.cb, .slice v.r v.nr v.cr, .slice v.t v.nt v.ct], .agg #[.slice u.s u.ns u.cs, .slice u.g u.ng u.cg, .slice u.b u.nb u.cb, .slice u.r u.nr u.cr, .slice u.t u.nt u.ct]]) ∧ (RdP w' v p ∧ Few p 11) ∧ (RdP w' u q ∧ Few q 11) ∧ Below w.heap.size w w' := by
  have b0 : Below w.heap.size w ((w.alloc (.cells #[.slice none 0 0, .slice none 0 0, .slice none 0 0, .slice none 0 0, .slice none 0 0] 30)).alloc (.cells #[.slice none 0 0, .slice none 0 0, .slice none 0 0, .slice none 0 0, .slice none 0 0] 30)) := ((Below.refl _ _).alloc (Nat.le_refl _) _).alloc (by simp) _
  have kA : Blk ((w.alloc (.cells #[.slice none 0 0, .slice none 0 0, .slice none 0 0, .slice none 0 0, .slice none 0 0] 30)).alloc (.cells #[.slice none 0 0, .slice none 0 0, .slice none 0 0, .slice none 0 0, .slice none 0 0] 30)) w.heap.size #[.slice none 0 0, .slice none 0 0, .slice none 0 0, .slice none 0 0, .slice none 0 0] 30 := (Blk.new _ _ _).alloc _
  have kB : Blk ((w.alloc (.cells #[.slice none 0 0, .slice none 0 0, .slice none 0 0, .slice none 0 0, .slice none 0 0] 30)).alloc (.cells #[.slice none 0 0, .slice none 0 0, .slice none 0 0, .slice none 0 0, .slice none 0 0] 30)) (w.heap.size + 1) #[.slice none 0 0, .slice none 0 0, .slice none 0 0, .slice none 0 0, .slice none 0 0] 30 := by have := Blk.new (w.alloc (.cells #[.slice none 0 0, .slice none 0 0, .slice none 0 0, .slice none 0 0, .slice none 0 0] 30)) #[.slice none 0 0, .slice none 0 0, .slice none 0 0, .slice none 0 0, .slice none 0 0] 30; simpa using this
  have s0 : ((w.alloc (.cells #[.slice none 0 0, .slice none 0 0, .slice none 0 0, .slice none 0 0, .slice none 0 0] 30)).alloc (.cells #[.slice none 0 0, .slice none 0 0, .slice none 0 0, .slice none 0 0, .slice none 0 0] 30)).heap.size = w.heap.size + 2 := by simp
  have hC0 := hC.below b0
  go_enter Tryd.func12, Tryd.ntmps12
  go_wp2_with fail
  refine hC0.open.mono ?_
  rintro e w1 ⟨rfl, n', bs', r1, b1, s1⟩
  replace kA := kA.below b1
  replace kB := kB.below b1
  have HB1 := Lib.hid (b0.trans (b1.mono b0.size))
  rw [s0] at r1 s1
  have HS1 := Lib.hid s1
  clear b0 b1 hC hC0 s1
  rw [s0]
  clear s0
  go_wp2_with fail
  refine (l6Draw_any (w.heap.size + 2) a n' c bs' 0 w1 r1 (by omega)).mono ?_
  rintro e w2 ⟨v, vs, p, pos', rfl, o2, f2, z2, r2, hp2, g2⟩
  have s1 := HS1.out
  have s2 := g2.size
  replace kA := kA.grown g2 (by simp)
  replace kB := kB.grown g2 (by simp)
  have HB2 := Lib.hid (HB1.out.trans (below_of_grown g2 (by omega) (fun i e => by cases e; omega)))
  have HO : Hid (Own w2 (w.heap.size + 3) v vs p 9) := Lib.hid ⟨o2, fun q hq => by have := f2 q hq; omega, z2⟩
  have hq3 : w.heap.size + 3 ≤ w2.heap.size := by omega
  clear r1 g2 o2 f2 z2 HS1 s1
  have bb : Below w2.heap.size w2 (w2.alloc (.cells #[.slice v.s v.ns v.cs, .slice v.g v.ng v.cg, .slice v.b v.nb v.cb, .slice v.r v.nr v.cr, .slice v.t v.nt v.ct] 30)) := (Below.refl _ _).alloc (Nat.le_refl _) _
  have kP : Blk (w2.alloc (.cells #[.slice v.s v.ns v.cs, .slice v.g v.ng v.cg, .slice v.b v.nb v.cb, .slice v.r v.nr v.cr, .slice v.t v.nt v.ct] 30)) w2.heap.size #[.slice v.s v.ns v.cs, .slice v.g v.ng v.cg, .slice v.b v.nb v.cb, .slice v.r v.nr v.cr, .slice v.t v.nt v.ct] 30 := Blk.new _ _ _
  replace kA := kA.below bb
  replace kB := kB.below bb
  have r3 := r2.below bb
  obtain ⟨W3, hW3⟩ : ∃ W3 : World, W3 = w2.alloc (.cells #[.slice v.s v.ns v.cs, .slice v.g v.ng v.cg, .slice v.b v.nb v.cb, .slice v.r v.nr v.cr, .slice v.t v.nt v.ct] 30) := ⟨_, rfl⟩
  obtain ⟨Q, hQ⟩ : ∃ Q, Q = w2.heap.size := ⟨_, rfl⟩
  have hs3 : W3.heap.size = Q + 1 := by rw [hW3, hQ]; simp
  rw [← hW3] at kA kB kP r3
  rw [← hQ] at kP hq3
  have HO3 : Hid (Own W3 (w.heap.size + 3) v vs p 9) := Lib.hid (by rw [hW3]; exact HO.out.below bb)
  have HB3 : Hid (Below w.heap.size w W3) := Lib.hid (HB2.out.trans (by rw [hW3]; exact bb.mono (by rw [hQ] at hq3; omega)))
  clear bb r2 HO HB2
  go_wp2_with fail
  rw [← hW3, ← hQ]
  clear hQ hW3
  refine (pick_some (w.heap.size + 2) a n' c bs' pos' 3 W3 r3 (by omega) (by decide)).mono ?_
  rintro e w4 ⟨x, rfl, hx, r4, g4, s4⟩
  replace kA := kA.grown g4 (by simp)
  replace kB := kB.grown g4 (by simp)
  replace kP := kP.grown g4 (by simp; omega)
  have HO4 := Lib.hid (HO3.out.gr g4 (by omega))
  have HB4 := Lib.hid (HB3.out.trans (below_of_grown g4 (by omega) (fun i e => by cases e; omega)))
  have hs4 : w4.heap.size = Q + 1 := by have := s4.out; omega
  clear g4 s4 r3 HO3 HB3 hs3
  obtain ⟨pp, hpp⟩ : ∃ pp : Int, pp = pos' + 1 := ⟨_, rfl⟩
  rw [← hpp] at r4
  have hpb : pp ≤ 200 := by omega
  clear hpp hp2
  by_cases hx0 : x = 0
  · have t9 : ((x : Int) == 0) = true := by rw [hx0]; rfl
    clear hx hx0
    go_wp2
    refine wp_region_steps 3 (by kernel_rfl) (by kernel_rfl) [fun dz uz wz => uz = .agg #[.slice v.s v.ns v.cs, .slice v.g v.ng v.cg, .slice v.b v.nb v.cb, .slice v.r v.nr v.cr, .slice v.t v.nt v.ct], fun dz uz wz => uz = .pointer (some ⟨w.heap.size + 2, 0, none⟩), fun dz uz wz => ∃ (zv : PV) (zs : List Value) (zp : Pg), uz = .agg #[.slice zv.s zv.ns zv.cs, .slice zv.g zv.ng zv.cg, .slice zv.b zv.nb zv.cb, .slice zv.r zv.nr zv.cr, .slice zv.t zv.nt zv.ct] ∧ Own wz (w.heap.size + 3) zv zs zp 9] (fun _ wz wy => wz.grownBy wy (some ((w.heap.size + 2)))) (fun _ _ => none) (GR ((w.heap.size + 2)) a n' c bs' w4 200 100 2 9) (GR.start r4 (by omega)) (fun _ _ _ h => h.size) (stabR_of ⟨fun _ _ _ _ _ h => h, fun _ _ _ _ _ h => h, fun _ _ _ _ hg ⟨zv, zs, zp, e, h⟩ => ⟨zv, zs, zp, e, Own.gr (i := w.heap.size + 2) (B := w.heap.size + 3) h hg (by omega)⟩, trivial⟩) ?_ ?_
    · simp only [List.take_succ_cons, List.take_zero]
      refine ⟨?_, ?_, ?_, trivial⟩
      · intro ρ w1 L hG hny hfr hd
        have fc : ∀ z, ρ (.const z) = z := fun _ => hfr _ rfl
        have ff : ∀ z, ρ (.func z) = .func (.func z) #[] #[] := fun _ => hfr _ rfl
        have f5 : ρ (.tmp 5) = .pointer (some ⟨Q, 0, none⟩) := hfr _ rfl
        have kP := kP.grown hG.1 (by simp; omega)
        have kPc0 := kP.cell 0 rfl
        have kPc1 := kP.cell 1 rfl
        have kPc2 := kP.cell 2 rfl
        have kPc3 := kP.cell 3 rfl
        have kPc4 := kP.cell 4 rfl
        refine gives_val (u := .agg #[.slice v.s v.ns v.cs, .slice v.g v.ng v.cg, .slice v.b v.nb v.cb, .slice v.r v.nr v.cr, .slice v.t v.nt v.ct]) (w' := w1) (by go_simp) ⟨World.grownBy.refl _ _, rfl, (fun _ hk => by cases hk), hG.same (by decide) _⟩
      · intro ρ w1 L hG hny hfr hd
        have fc : ∀ z, ρ (.const z) = z := fun _ => hfr _ rfl
        have ff : ∀ z, ρ (.func z) = .func (.func z) #[] #[] := fun _ => hfr _ rfl
        have f4 : ρ (.tmp 4) = .pointer (some ⟨w.heap.size + 2, 0, none⟩) := hfr _ rfl
        refine gives_val (u := .pointer (some ⟨w.heap.size + 2, 0, none⟩)) (w' := w1) (by go_simp) ⟨World.grownBy.refl _ _, rfl, (fun _ hk => by cases hk), hG.same (by decide) _⟩
      · intro ρ w1 L hG hny hfr hd
        have fc : ∀ z, ρ (.const z) = z := fun _ => hfr _ rfl
        have ff : ∀ z, ρ (.func z) = .func (.func z) #[] #[] := fun _ => hfr _ rfl
        obtain ⟨d0, -⟩ := hd
        have d0 : (ρ (.tmp 14)) = .pointer (some ⟨w.heap.size + 2, 0, none⟩) := d0
        have hLi := hny 2 _ rfl (by kernel_rfl)
        obtain ⟨pos, hrd, hpos⟩ := hG.2
        have hpb := hpos
        have hif : ∀ b : Bool, (if b = true then (100 : Int) else 0) ≤ 100 := fun b => by cases b <;> decide
        have hb1 := hif (L 2)
        have hb2 := hif (L 9)
        refine gives_call (by go_simp; exact ⟨⟨rfl, rfl⟩, rfl⟩) ?_
        refine (l6Draw_any (w.heap.size + 2) a n' c bs' pos _ hrd (by omega)).mono ?_
        rintro e w2 ⟨zv, zs, zp, pos2, rfl, z1, z2, z3, z4, z5, z6⟩
        exact ⟨_, rfl, z6, ⟨zv, zs, zp, rfl, z1, fun q hq => by have := z2 q hq; have := hG.1.size; omega, z3⟩, (fun _ hk => by cases hk), hG.call (by decide) ⟨.inl rfl, by decide⟩ hLi hpos z4 (by omega) z6⟩
    intro vs w2 L hG hlen hall hap hbd
    obtain ⟨xv0, vs0, rfl, hl0⟩ := len_cons hlen
    obtain ⟨xv1, vs1, rfl, hl1⟩ := len_cons hl0
    obtain ⟨xv2, vs2, rfl, hl2⟩ := len_cons hl1
    obtain rfl := len_nil hl2
    clear hlen hl0 hl1 hl2
    simp only [List.take_succ_cons, List.take_zero, List.drop_succ_cons, List.drop_zero] at hall ⊢
    obtain ⟨t0', t1', t2', -⟩ := hall
    have hv0 : xv0 = .agg #[.slice v.s v.ns v.cs, .slice v.g v.ng v.cg, .slice v.b v.nb v.cb, .slice v.r v.nr v.cr, .slice v.t v.nt v.ct] := t0'
    have hv1 : xv1 = .pointer (some ⟨w.heap.size + 2, 0, none⟩) := t1'
    have hv2 : ∃ (zv : PV) (zs : List Value) (zp : Pg), xv2 = .agg #[.slice zv.s zv.ns zv.cs, .slice zv.g zv.ng zv.cg, .slice zv.b zv.nb zv.cb, .slice zv.r zv.nr zv.cr, .slice zv.t zv.nt zv.ct] ∧ Own w2 (w.heap.size + 3) zv zs zp 9 := t2'
    clear t0' t1' t2'
    clear hap hbd
    subst hv0 hv1
    simp only [putAll, Act.put, List.setIfInBounds_toArray, List.set_cons_succ, List.set_cons_zero]
    obtain ⟨zv, zs, zp, rfl, zo⟩ := hv2
    have hg9 := hG.1
    replace kA := kA.grown hg9 (by simp)
    replace kB := kB.grown hg9 (by simp)
    have HOV := Lib.hid (HO4.out.gr hg9 (by omega))
    have HOU := Lib.hid zo
    have HFV : Hid (Few p 11) := Lib.hid (HO4.out.few.mono (by decide))
    have HFU : Hid (Few zp 11) := Lib.hid (zo.few.mono (by decide))
    have hs9 := hg9.size
    have HBZ := Lib.hid (HB4.out.trans (below_of_grown hg9 (by omega) (fun i e => by cases e; omega)))
    have hw9 : w.heap.size + 1 < w2.heap.size := by omega
    clear hG hg9 zo kP
    have y0 := kA.cell 0 rfl
    have x0 := kA.fz 0
    have y1 := kA.cell 1 rfl
    have x1 := kA.fz 1
    have y2 := kA.cell 2 rfl
    have x2 := kA.fz 2
    have y3 := kA.cell 3 rfl
    have x3 := kA.fz 3
    have y4 := kA.cell 4 rfl
    have x4 := kA.fz 4
    have hza : w2.grownBy ((((((w2).setCell ⟨w.heap.size, 0, none⟩ (.slice v.s v.ns v.cs)).setCell ⟨w.heap.size, 1, none⟩ (.slice v.g v.ng v.cg)).setCell ⟨w.heap.size, 2, none⟩ (.slice v.b v.nb v.cb)).setCell ⟨w.heap.size, 3, none⟩ (.slice v.r v.nr v.cr)).setCell ⟨w.heap.size, 4, none⟩ (.slice v.t v.nt v.ct)) (some (w.heap.size)) := grown_trans (grown_trans (grown_trans (grown_trans (grown_set _ _ _ _) (grown_set _ _ _ _)) (grown_set _ _ _ _)) (grown_set _ _ _ _)) (grown_set _ _ _ _)
    have HZA := Lib.hid hza
    clear hza
    have kB2 : Blk ((((((w2).setCell ⟨w.heap.size, 0, none⟩ (.slice v.s v.ns v.cs)).setCell ⟨w.heap.size, 1, none⟩ (.slice v.g v.ng v.cg)).setCell ⟨w.heap.size, 2, none⟩ (.slice v.b v.nb v.cb)).setCell ⟨w.heap.size, 3, none⟩ (.slice v.r v.nr v.cr)).setCell ⟨w.heap.size, 4, none⟩ (.slice v.t v.nt v.ct)) (w.heap.size + 1) _ _ := kB.grown HZA.out (by simp)
    have u0 := kB2.cell 0 rfl
    have t0 := kB2.fz 0
    have u1 := kB2.cell 1 rfl
    have t1 := kB2.fz 1
    have u2 := kB2.cell 2 rfl
    have t2 := kB2.fz 2
    have u3 := kB2.cell 3 rfl
    have t3 := kB2.fz 3
    have u4 := kB2.cell 4 rfl
    have t4 := kB2.fz 4
    have hzb : ((((((w2).setCell ⟨w.heap.size, 0, none⟩ (.slice v.s v.ns v.cs)).setCell ⟨w.heap.size, 1, none⟩ (.slice v.g v.ng v.cg)).setCell ⟨w.heap.size, 2, none⟩ (.slice v.b v.nb v.cb)).setCell ⟨w.heap.size, 3, none⟩ (.slice v.r v.nr v.cr)).setCell ⟨w.heap.size, 4, none⟩ (.slice v.t v.nt v.ct)).grownBy ((((((((((((w2).setCell ⟨w.heap.size, 0, none⟩ (.slice v.s v.ns v.cs)).setCell ⟨w.heap.size, 1, none⟩ (.slice v.g v.ng v.cg)).setCell ⟨w.heap.size, 2, none⟩ (.slice v.b v.nb v.cb)).setCell ⟨w.heap.size, 3, none⟩ (.slice v.r v.nr v.cr)).setCell ⟨w.heap.size, 4, none⟩ (.slice v.t v.nt v.ct))).setCell ⟨w.heap.size + 1, 0, none⟩ (.slice zv.s zv.ns zv.cs)).setCell ⟨w.heap.size + 1, 1, none⟩ (.slice zv.g zv.ng zv.cg)).setCell ⟨w.heap.size + 1, 2, none⟩ (.slice zv.b zv.nb zv.cb)).setCell ⟨w.heap.size + 1, 3, none⟩ (.slice zv.r zv.nr zv.cr)).setCell ⟨w.heap.size + 1, 4, none⟩ (.slice zv.t zv.nt zv.ct)) (some (w.heap.size + 1)) := grown_trans (grown_trans (grown_trans (grown_trans (grown_set _ _ _ _) (grown_set _ _ _ _)) (grown_set _ _ _ _)) (grown_set _ _ _ _)) (grown_set _ _ _ _)
    have HZB := Lib.hid hzb
    clear hzb
    go_wp2
    refine bodyPost_ret (v := .tuple #[.agg #[.slice v.s v.ns v.cs, .slice v.g v.ng v.cg, .slice v.b v.nb v.cb, .slice v.r v.nr v.cr, .slice v.t v.nt v.ct], .agg #[.slice zv.s zv.ns zv.cs, .slice zv.g zv.ng zv.cg, .slice zv.b zv.nb zv.cb, .slice zv.r zv.nr zv.cr, .slice zv.t zv.nt zv.ct]]) (by simp [results, Tryd.results12, go_sem, y0, y1, y2, y3, y4, u0, u1, u2, u3, u4]) rfl ⟨v, p, zv, zp, rfl, ⟨((HOV.out.gr HZA.out (by omega)).gr HZB.out (by omega)).own.rd, HFV.out⟩, ⟨((HOU.out.gr HZA.out (by omega)).gr HZB.out (by omega)).own.rd, HFU.out⟩, HBZ.out.trans ((below_of_grown HZA.out (by omega) (fun i e => by cases e; omega)).trans (below_of_grown HZB.out (by have := HZA.out.size; omega) (fun i e => by cases e; omega)))⟩
  · have t9 : ((x : Int) == 0) = false := by simpa using hx0
    clear hx hx0
    go_wp2
    refine wp_region_steps 6 (by kernel_rfl) (by kernel_rfl) [fun dz uz wz => uz = .agg #[.slice v.s v.ns v.cs, .slice v.g v.ng v.cg, .slice v.b v.nb v.cb, .slice v.r v.nr v.cr, .slice v.t v.nt v.ct], fun dz uz wz => uz = .pointer (some ⟨w.heap.size + 2, 0, none⟩), fun dz uz wz => uz = .pointer (some ⟨w.heap.size + 2, 0, none⟩), fun dz uz wz => uz = .agg #[.slice v.s v.ns v.cs, .slice v.g v.ng v.cg, .slice v.b v.nb v.cb, .slice v.r v.nr v.cr, .slice v.t v.nt v.ct], fun dz uz wz => ∃ (zv : PV) (zs : List Value) (zp : Pg), uz = .agg #[.slice zv.s zv.ns zv.cs, .slice zv.g zv.ng zv.cg, .slice zv.b zv.nb zv.cb, .slice zv.r zv.nr zv.cr, .slice zv.t zv.nt zv.ct] ∧ Own wz (w.heap.size + 3) zv zs zp 10, fun dz uz wz => ∃ (zv : PV) (zs : List Value) (zp : Pg), uz = .agg #[.slice zv.s zv.ns zv.cs, .slice zv.g zv.ng zv.cg, .slice zv.b zv.nb zv.cb, .slice zv.r zv.nr zv.cr, .slice zv.t zv.nt zv.ct] ∧ Own wz (w.heap.size + 3) zv zs zp 11] (fun _ wz wy => wz.grownBy wy (some ((w.heap.size + 2)))) (fun _ _ => none) (GR ((w.heap.size + 2)) a n' c bs' w4 200 100 4 5) (GR.start r4 (by omega)) (fun _ _ _ h => h.size) (stabR_of ⟨fun _ _ _ _ _ h => h, fun _ _ _ _ _ h => h, fun _ _ _ _ _ h => h, fun _ _ _ _ _ h => h, fun _ _ _ _ hg ⟨zv, zs, zp, e, h⟩ => ⟨zv, zs, zp, e, Own.gr (i := w.heap.size + 2) (B := w.heap.size + 3) h hg (by omega)⟩, fun _ _ _ _ hg ⟨zv, zs, zp, e, h⟩ => ⟨zv, zs, zp, e, Own.gr (i := w.heap.size + 2) (B := w.heap.size + 3) h hg (by omega)⟩, trivial⟩) ?_ ?_
    · simp only [List.take_succ_cons, List.take_zero]
      refine ⟨?_, ?_, ?_, ?_, ?_, ?_, trivial⟩
      · intro ρ w1 L hG hny hfr hd
        have fc : ∀ z, ρ (.const z) = z := fun _ => hfr _ rfl
        have ff : ∀ z, ρ (.func z) = .func (.func z) #[] #[] := fun _ => hfr _ rfl
        have f5 : ρ (.tmp 5) = .pointer (some ⟨Q, 0, none⟩) := hfr _ rfl
        have kP := kP.grown hG.1 (by simp; omega)
        have kPc0 := kP.cell 0 rfl
        have kPc1 := kP.cell 1 rfl
        have kPc2 := kP.cell 2 rfl
        have kPc3 := kP.cell 3 rfl
        have kPc4 := kP.cell 4 rfl
        refine gives_val (u := .agg #[.slice v.s v.ns v.cs, .slice v.g v.ng v.cg, .slice v.b v.nb v.cb, .slice v.r v.nr v.cr, .slice v.t v.nt v.ct]) (w' := w1) (by go_simp) ⟨World.grownBy.refl _ _, rfl, (fun _ hk => by cases hk), hG.same (by decide) _⟩
      · intro ρ w1 L hG hny hfr hd
        have fc : ∀ z, ρ (.const z) = z := fun _ => hfr _ rfl
        have ff : ∀ z, ρ (.func z) = .func (.func z) #[] #[] := fun _ => hfr _ rfl
        have f4 : ρ (.tmp 4) = .pointer (some ⟨w.heap.size + 2, 0, none⟩) := hfr _ rfl
        refine gives_val (u := .pointer (some ⟨w.heap.size + 2, 0, none⟩)) (w' := w1) (by go_simp) ⟨World.grownBy.refl _ _, rfl, (fun _ hk => by cases hk), hG.same (by decide) _⟩
      · intro ρ w1 L hG hny hfr hd
        have fc : ∀ z, ρ (.const z) = z := fun _ => hfr _ rfl
        have ff : ∀ z, ρ (.func z) = .func (.func z) #[] #[] := fun _ => hfr _ rfl
        have f4 : ρ (.tmp 4) = .pointer (some ⟨w.heap.size + 2, 0, none⟩) := hfr _ rfl
        refine gives_val (u := .pointer (some ⟨w.heap.size + 2, 0, none⟩)) (w' := w1) (by go_simp) ⟨World.grownBy.refl _ _, rfl, (fun _ hk => by cases hk), hG.same (by decide) _⟩
      · intro ρ w1 L hG hny hfr hd
        have fc : ∀ z, ρ (.const z) = z := fun _ => hfr _ rfl
        have ff : ∀ z, ρ (.func z) = .func (.func z) #[] #[] := fun _ => hfr _ rfl
        have f5 : ρ (.tmp 5) = .pointer (some ⟨Q, 0, none⟩) := hfr _ rfl
        have kP := kP.grown hG.1 (by simp; omega)
        have kPc0 := kP.cell 0 rfl
        have kPc1 := kP.cell 1 rfl
        have kPc2 := kP.cell 2 rfl
        have kPc3 := kP.cell 3 rfl
        have kPc4 := kP.cell 4 rfl
        refine gives_val (u := .agg #[.slice v.s v.ns v.cs, .slice v.g v.ng v.cg, .slice v.b v.nb v.cb, .slice v.r v.nr v.cr, .slice v.t v.nt v.ct]) (w' := w1) (by go_simp) ⟨World.grownBy.refl _ _, rfl, (fun _ hk => by cases hk), hG.same (by decide) _⟩
      · intro ρ w1 L hG hny hfr hd
        have fc : ∀ z, ρ (.const z) = z := fun _ => hfr _ rfl
        have ff : ∀ z, ρ (.func z) = .func (.func z) #[] #[] := fun _ => hfr _ rfl
        obtain ⟨d0, d1, -⟩ := hd
        have d0 : (ρ (.tmp 18)) = .pointer (some ⟨w.heap.size + 2, 0, none⟩) := d0
        have d1 : (ρ (.tmp 19)) = .agg #[.slice v.s v.ns v.cs, .slice v.g v.ng v.cg, .slice v.b v.nb v.cb, .slice v.r v.nr v.cr, .slice v.t v.nt v.ct] := d1
        have hLi := hny 4 _ rfl (by kernel_rfl)
        obtain ⟨pos, hrd, hpos⟩ := hG.2
        have hpb := hpos
        have hif : ∀ b : Bool, (if b = true then (100 : Int) else 0) ≤ 100 := fun b => by cases b <;> decide
        have hb1 := hif (L 4)
        have hb2 := hif (L 5)
        refine gives_call (by go_simp; exact ⟨⟨rfl, rfl⟩, rfl⟩) ?_
        refine (l6Wrong_any (w.heap.size + 2) a n' c bs' pos v p 9 _ hrd (by omega) (HO4.out.gr hG.1 (by omega)).own.rd HO4.out.few (by decide)).mono ?_
        rintro e w2 ⟨zv, zs, zp, pos2, rfl, z1, z2, z3, z4, z5, z6⟩
        exact ⟨_, rfl, z6, ⟨zv, zs, zp, rfl, z1, fun q hq => by have := z2 q hq; have := hG.1.size; omega, z3⟩, (fun _ hk => by cases hk), hG.call (by decide) ⟨.inl rfl, by decide⟩ hLi hpos z4 (by omega) z6⟩
      · intro ρ w1 L hG hny hfr hd
        have fc : ∀ z, ρ (.const z) = z := fun _ => hfr _ rfl
        have ff : ∀ z, ρ (.func z) = .func (.func z) #[] #[] := fun _ => hfr _ rfl
        obtain ⟨d0, d1, -⟩ := hd
        have d0 : (ρ (.tmp 17)) = .pointer (some ⟨w.heap.size + 2, 0, none⟩) := d0
        have d1 : ∃ (zv : PV) (zs : List Value) (zp : Pg), (ρ (.tmp 20)) = .agg #[.slice zv.s zv.ns zv.cs, .slice zv.g zv.ng zv.cg, .slice zv.b zv.nb zv.cb, .slice zv.r zv.nr zv.cr, .slice zv.t zv.nt zv.ct] ∧ Own w1 (w.heap.size + 3) zv zs zp 10 := d1
        have hLi := hny 5 _ rfl (by kernel_rfl)
        obtain ⟨pos, hrd, hpos⟩ := hG.2
        have hpb := hpos
        have hif : ∀ b : Bool, (if b = true then (100 : Int) else 0) ≤ 100 := fun b => by cases b <;> decide
        have hb1 := hif (L 4)
        have hb2 := hif (L 5)
        obtain ⟨yv, ys, yp, d1, yo⟩ := d1
        refine gives_call (by go_simp; exact ⟨⟨rfl, rfl⟩, rfl⟩) ?_
        refine (l6Wrong_any (w.heap.size + 2) a n' c bs' pos yv yp 10 _ hrd (by omega) yo.own.rd yo.few (by decide)).mono ?_
        rintro e w2 ⟨zv, zs, zp, pos2, rfl, z1, z2, z3, z4, z5, z6⟩
        exact ⟨_, rfl, z6, ⟨zv, zs, zp, rfl, z1, fun q hq => by have := z2 q hq; have := hG.1.size; omega, z3⟩, (fun _ hk => by cases hk), hG.call (by decide) ⟨.inr rfl, by decide⟩ hLi hpos z4 (by omega) z6⟩
    intro vs w2 L hG hlen hall hap hbd
    obtain ⟨xv0, vs0, rfl, hl0⟩ := len_cons hlen
    obtain ⟨xv1, vs1, rfl, hl1⟩ := len_cons hl0
    obtain ⟨xv2, vs2, rfl, hl2⟩ := len_cons hl1
    obtain ⟨xv3, vs3, rfl, hl3⟩ := len_cons hl2
    obtain ⟨xv4, vs4, rfl, hl4⟩ := len_cons hl3
    obtain ⟨xv5, vs5, rfl, hl5⟩ := len_cons hl4
    obtain rfl := len_nil hl5
    clear hlen hl0 hl1 hl2 hl3 hl4 hl5
    simp only [List.take_succ_cons, List.take_zero, List.drop_succ_cons, List.drop_zero] at hall ⊢
    obtain ⟨t0', t1', t2', t3', t4', t5', -⟩ := hall
    have hv0 : xv0 = .agg #[.slice v.s v.ns v.cs, .slice v.g v.ng v.cg, .slice v.b v.nb v.cb, .slice v.r v.nr v.cr, .slice v.t v.nt v.ct] := t0'
    have hv1 : xv1 = .pointer (some ⟨w.heap.size + 2, 0, none⟩) := t1'
    have hv2 : xv2 = .pointer (some ⟨w.heap.size + 2, 0, none⟩) := t2'
    have hv3 : xv3 = .agg #[.slice v.s v.ns v.cs, .slice v.g v.ng v.cg, .slice v.b v.nb v.cb, .slice v.r v.nr v.cr, .slice v.t v.nt v.ct] := t3'
    have hv4 : ∃ (zv : PV) (zs : List Value) (zp : Pg), xv4 = .agg #[.slice zv.s zv.ns zv.cs, .slice zv.g zv.ng zv.cg, .slice zv.b zv.nb zv.cb, .slice zv.r zv.nr zv.cr, .slice zv.t zv.nt zv.ct] ∧ Own w2 (w.heap.size + 3) zv zs zp 10 := t4'
    have hv5 : ∃ (zv : PV) (zs : List Value) (zp : Pg), xv5 = .agg #[.slice zv.s zv.ns zv.cs, .slice zv.g zv.ng zv.cg, .slice zv.b zv.nb zv.cb, .slice zv.r zv.nr zv.cr, .slice zv.t zv.nt zv.ct] ∧ Own w2 (w.heap.size + 3) zv zs zp 11 := t5'
    clear t0' t1' t2' t3' t4' t5'
    clear hap hbd
    subst hv0 hv1 hv2 hv3
    simp only [putAll, Act.put, List.setIfInBounds_toArray, List.set_cons_succ, List.set_cons_zero]
    obtain ⟨rv, rs, rp, rfl, -⟩ := hv4
    obtain ⟨zv, zs, zp, rfl, zo⟩ := hv5
    have hg9 := hG.1
    replace kA := kA.grown hg9 (by simp)
    replace kB := kB.grown hg9 (by simp)
    have HOV := Lib.hid (HO4.out.gr hg9 (by omega))
    have HOU := Lib.hid zo
    have HFV : Hid (Few p 11) := Lib.hid (HO4.out.few.mono (by decide))
    have HFU : Hid (Few zp 11) := Lib.hid (zo.few.mono (by decide))
    have hs9 := hg9.size
    have HBZ := Lib.hid (HB4.out.trans (below_of_grown hg9 (by omega) (fun i e => by cases e; omega)))
    have hw9 : w.heap.size + 1 < w2.heap.size := by omega
    clear hG hg9 zo kP
    have y0 := kA.cell 0 rfl
    have x0 := kA.fz 0
    have y1 := kA.cell 1 rfl
    have x1 := kA.fz 1
    have y2 := kA.cell 2 rfl
    have x2 := kA.fz 2
    have y3 := kA.cell 3 rfl
    have x3 := kA.fz 3
    have y4 := kA.cell 4 rfl
    have x4 := kA.fz 4
    have hza : w2.grownBy ((((((w2).setCell ⟨w.heap.size, 0, none⟩ (.slice v.s v.ns v.cs)).setCell ⟨w.heap.size, 1, none⟩ (.slice v.g v.ng v.cg)).setCell ⟨w.heap.size, 2, none⟩ (.slice v.b v.nb v.cb)).setCell ⟨w.heap.size, 3, none⟩ (.slice v.r v.nr v.cr)).setCell ⟨w.heap.size, 4, none⟩ (.slice v.t v.nt v.ct)) (some (w.heap.size)) := grown_trans (grown_trans (grown_trans (grown_trans (grown_set _ _ _ _) (grown_set _ _ _ _)) (grown_set _ _ _ _)) (grown_set _ _ _ _)) (grown_set _ _ _ _)
    have HZA := Lib.hid hza
    clear hza
    have kB2 : Blk ((((((w2).setCell ⟨w.heap.size, 0, none⟩ (.slice v.s v.ns v.cs)).setCell ⟨w.heap.size, 1, none⟩ (.slice v.g v.ng v.cg)).setCell ⟨w.heap.size, 2, none⟩ (.slice v.b v.nb v.cb)).setCell ⟨w.heap.size, 3, none⟩ (.slice v.r v.nr v.cr)).setCell ⟨w.heap.size, 4, none⟩ (.slice v.t v.nt v.ct)) (w.heap.size + 1) _ _ := kB.grown HZA.out (by simp)
    have u0 := kB2.cell 0 rfl
    have t0 := kB2.fz 0
    have u1 := kB2.cell 1 rfl
    have t1 := kB2.fz 1
    have u2 := kB2.cell 2 rfl
    have t2 := kB2.fz 2
    have u3 := kB2.cell 3 rfl
    have t3 := kB2.fz 3
    have u4 := kB2.cell 4 rfl
    have t4 := kB2.fz 4
    have hzb : ((((((w2).setCell ⟨w.heap.size, 0, none⟩ (.slice v.s v.ns v.cs)).setCell ⟨w.heap.size, 1, none⟩ (.slice v.g v.ng v.cg)).setCell ⟨w.heap.size, 2, none⟩ (.slice v.b v.nb v.cb)).setCell ⟨w.heap.size, 3, none⟩ (.slice v.r v.nr v.cr)).setCell ⟨w.heap.size, 4, none⟩ (.slice v.t v.nt v.ct)).grownBy ((((((((((((w2).setCell ⟨w.heap.size, 0, none⟩ (.slice v.s v.ns v.cs)).setCell ⟨w.heap.size, 1, none⟩ (.slice v.g v.ng v.cg)).setCell ⟨w.heap.size, 2, none⟩ (.slice v.b v.nb v.cb)).setCell ⟨w.heap.size, 3, none⟩ (.slice v.r v.nr v.cr)).setCell ⟨w.heap.size, 4, none⟩ (.slice v.t v.nt v.ct))).setCell ⟨w.heap.size + 1, 0, none⟩ (.slice zv.s zv.ns zv.cs)).setCell ⟨w.heap.size + 1, 1, none⟩ (.slice zv.g zv.ng zv.cg)).setCell ⟨w.heap.size + 1, 2, none⟩ (.slice zv.b zv.nb zv.cb)).setCell ⟨w.heap.size + 1, 3, none⟩ (.slice zv.r zv.nr zv.cr)).setCell ⟨w.heap.size + 1, 4, none⟩ (.slice zv.t zv.nt zv.ct)) (some (w.heap.size + 1)) := grown_trans (grown_trans (grown_trans (grown_trans (grown_set _ _ _ _) (grown_set _ _ _ _)) (grown_set _ _ _ _)) (grown_set _ _ _ _)) (grown_set _ _ _ _)
    have HZB := Lib.hid hzb
    clear hzb
    go_wp2
    refine bodyPost_ret (v := .tuple #[.agg #[.slice v.s v.ns v.cs, .slice v.g v.ng v.cg, .slice v.b v.nb v.cb, .slice v.r v.nr v.cr, .slice v.t v.nt v.ct], .agg #[.slice zv.s zv.ns zv.cs, .slice zv.g zv.ng zv.cg, .slice zv.b zv.nb zv.cb, .slice zv.r zv.nr zv.cr, .slice zv.t zv.nt zv.ct]]) (by simp [results, Tryd.results12, go_sem, y0, y1, y2, y3, y4, u0, u1, u2, u3, u4]) rfl ⟨v, p, zv, zp, rfl, ⟨((HOV.out.gr HZA.out (by omega)).gr HZB.out (by omega)).own.rd, HFV.out⟩, ⟨((HOU.out.gr HZA.out (by omega)).gr HZB.out (by omega)).own.rd, HFU.out⟩, HBZ.out.trans ((below_of_grown HZA.out (by omega) (fun i e => by cases e; omega)).trans (below_of_grown HZB.out (by have := HZA.out.size; omega) (fun i e => by cases e; omega)))⟩

end Go.Proofs.YtnobkdkfhgjeeabDoor
