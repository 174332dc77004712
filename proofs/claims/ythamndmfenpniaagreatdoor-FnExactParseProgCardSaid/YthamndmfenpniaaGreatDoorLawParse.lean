/- The law FnExactParseProg: its walk. -/
import Derived.Test.YthamndmfenpniaaGreatDoorPProg
import Derived.Test.YthamndmfenpniaaGreatDoorBaseE
namespace Go.Proofs.YthamndmfenpniaaGreatDoor
open Go.RowKit

theorem fit_parse (s : ByteArray) : FitP ((parseProg s).getD zeroPg) := by
  cases h : parseProg s with
  | none => exact fit_of ⟨by simp [zeroPg], by simp [zeroPg], by simp [zeroPg], by simp [zeroPg], by simp [zeroPg], fun i => by simp [zeroPg]⟩ (by simp [zeroPg, lenSum])
  | some p =>
    have hv := (parse_iff.1 h).1
    obtain ⟨h1, h2, h3, h4⟩ := valid_lists hv
    obtain ⟨h5, h6⟩ := valid_thr_ops hv
    have g1 := (within_facts h1).1
    have g2 := (within_facts h2).1
    have g3 := (within_facts h3).1
    have g4 := (within_facts h4).1
    show FitP p
    refine fit_of ⟨by omega, by omega, by omega, by omega, by omega, fun i => ?_⟩ ?_
    · by_cases hi : i < p.threads.length
      · rw [List.getD_eq_getElem?_getD, List.getElem?_eq_getElem hi]
        have := (h6 _ (List.getElem_mem hi)).1
        show (p.threads[i]).length ≤ _
        omega
      · rw [List.getD_eq_getElem?_getD, List.getElem?_eq_none (by omega)]; exact Nat.zero_le _
    · have key : ∀ ts : List (List OpD), (∀ t ∈ ts, t.length ≤ 8) → lenSum ts ≤ ts.length * 8 := fun ts => by
        induction ts with
        | nil => intro _; simp [lenSum]
        | cons t ts ih =>
          intro h
          have k1 := ih (fun x hx => h x (List.mem_cons_of_mem _ hx))
          have k2 := h t List.mem_cons_self
          unfold lenSum at k1 ⊢
          simp only [List.map_cons, List.sum_cons, List.length_cons]
          omega
      have := key p.threads (fun t ht => (h6 t ht).1)
      omega

set_option maxRecDepth 100000 in
set_option maxHeartbeats 4000000 in
theorem lawParseProg (s : ByteArray) (w : World) (hL : Laid2 w) :
    Calls Tryz.prog 5 #[.string s] w fun e w' => e = .returned (.bool true) ∧ Below w.heap.size w w' := by
  have HL := Lib.hid hL
  clear hL
  go_enter Tryz.func5, Tryz.ntmps5
  by_cases hbig : 1048576 < s.size
  · have t0 : decide ((1048576 : Int) < (s.size : Int)) = true := decide_eq_true (by omega)
    go_wp2
    go_ret
    exact ⟨rfl, Below.refl _ _⟩
  have t0 : decide ((1048576 : Int) < (s.size : Int)) = false := decide_eq_false (by omega)
  have hsz : s.size ≤ 1048576 := by omega
  have HF : Hid (FitP ((parseProg s).getD zeroPg)) := Lib.hid (fit_parse s)
  obtain ⟨sb, hsb⟩ : ∃ sb, (parseProg s).isSome = sb := ⟨_, rfl⟩
  obtain ⟨rp, hrp⟩ : ∃ rp, (parseProg s).getD zeroPg = rp := ⟨_, rfl⟩
  rw [hrp] at HF
  have HSB := Lib.hid hsb
  have HRP := Lib.hid hrp
  have HSZ := Lib.hid hsz
  have B0 : Below w.heap.size w w := Below.refl _ _
  clear hsb hrp
  go_wp2_with fail
  refine (specParseProg_any s _ (by have := HSZ.out; omega)).mono ?_
  rintro e w1 ⟨gw, vsw, rfl, ow, frw, smw, hb⟩
  rw [HSB.out]
  rw [HRP.out] at ow
  have rW := ow.rd
  clear ow frw smw hsz hbig t0
  replace B0 := B0.trans (hb.mono B0.size)
  clear hb
  have B3 : Below w1.heap.size w1 w1 := Below.refl _ _
  have hw1 : Hid (w.heap.size ≤ w1.heap.size) := Lib.hid B0.size
  have bA : Below w1.heap.size w1 (w1.alloc (.cells #[.slice gw.s gw.ns gw.cs, .slice gw.g gw.ng gw.cg, .slice gw.b gw.nb gw.cb, .slice gw.r gw.nr gw.cr, .slice gw.t gw.nt gw.ct] 27)) := (Below.refl _ _).alloc (Nat.le_refl _) _
  have kA : Blk (w1.alloc (.cells #[.slice gw.s gw.ns gw.cs, .slice gw.g gw.ng gw.cg, .slice gw.b gw.nb gw.cb, .slice gw.r gw.nr gw.cr, .slice gw.t gw.nt gw.ct] 27)) w1.heap.size #[.slice gw.s gw.ns gw.cs, .slice gw.g gw.ng gw.cg, .slice gw.b gw.nb gw.cb, .slice gw.r gw.nr gw.cr, .slice gw.t gw.nt gw.ct] 27 := Blk.new _ _ _
  have y0 : (w1.alloc (.cells #[.slice gw.s gw.ns gw.cs, .slice gw.g gw.ng gw.cg, .slice gw.b gw.nb gw.cb, .slice gw.r gw.nr gw.cr, .slice gw.t gw.nt gw.ct] 27)).cell? ⟨w1.heap.size, 0, none⟩ = some (.slice gw.s gw.ns gw.cs) := kA.cell 0 rfl
  have y1 : (w1.alloc (.cells #[.slice gw.s gw.ns gw.cs, .slice gw.g gw.ng gw.cg, .slice gw.b gw.nb gw.cb, .slice gw.r gw.nr gw.cr, .slice gw.t gw.nt gw.ct] 27)).cell? ⟨w1.heap.size, 1, none⟩ = some (.slice gw.g gw.ng gw.cg) := kA.cell 1 rfl
  have y2 : (w1.alloc (.cells #[.slice gw.s gw.ns gw.cs, .slice gw.g gw.ng gw.cg, .slice gw.b gw.nb gw.cb, .slice gw.r gw.nr gw.cr, .slice gw.t gw.nt gw.ct] 27)).cell? ⟨w1.heap.size, 2, none⟩ = some (.slice gw.b gw.nb gw.cb) := kA.cell 2 rfl
  have y3 : (w1.alloc (.cells #[.slice gw.s gw.ns gw.cs, .slice gw.g gw.ng gw.cg, .slice gw.b gw.nb gw.cb, .slice gw.r gw.nr gw.cr, .slice gw.t gw.nt gw.ct] 27)).cell? ⟨w1.heap.size, 3, none⟩ = some (.slice gw.r gw.nr gw.cr) := kA.cell 3 rfl
  have y4 : (w1.alloc (.cells #[.slice gw.s gw.ns gw.cs, .slice gw.g gw.ng gw.cg, .slice gw.b gw.nb gw.cb, .slice gw.r gw.nr gw.cr, .slice gw.t gw.nt gw.ct] 27)).cell? ⟨w1.heap.size, 4, none⟩ = some (.slice gw.t gw.nt gw.ct) := kA.cell 4 rfl
  replace B0 := B0.trans (bA.mono B0.size)
  replace B3 := B3.trans (bA.mono B3.size)
  have hs_y : w1.heap.size < (w1.alloc (.cells #[.slice gw.s gw.ns gw.cs, .slice gw.g gw.ng gw.cg, .slice gw.b gw.nb gw.cb, .slice gw.r gw.nr gw.cr, .slice gw.t gw.nt gw.ct] 27)).heap.size := by simp
  clear kA bA
  go_wp2_with fail
  refine (implParseProg_any s _ (HL.out.below B0) HSZ.out).mono ?_
  rintro e w2 ⟨u, us, rfl, ou, ndu, fru, smu, hb⟩
  rw [HSB.out]
  rw [HRP.out] at ou
  have FU : Hid (∀ k ∈ fpP u us, w1.heap.size < k ∧ k < w2.heap.size) := Lib.hid (fun k hk => ⟨Nat.lt_of_lt_of_le hs_y (fru k hk), ou.lt k hk⟩)
  have NDU := Lib.hid ndu
  have h12 : Hid (w1.heap.size < w2.heap.size) := Lib.hid (Nat.lt_of_lt_of_le hs_y hb.size)
  clear ndu fru smu hs_y
  replace B0 := B0.trans (hb.mono B0.size)
  replace B3 := B3.trans (hb.mono B3.size)
  replace y0 := keepc hb y0
  replace y1 := keepc hb y1
  replace y2 := keepc hb y2
  replace y3 := keepc hb y3
  replace y4 := keepc hb y4
  clear hb
  have bA : Below w2.heap.size w2 (w2.alloc (.cells #[.slice u.s u.ns u.cs, .slice u.g u.ng u.cg, .slice u.b u.nb u.cb, .slice u.r u.nr u.cr, .slice u.t u.nt u.ct] 27)) := (Below.refl _ _).alloc (Nat.le_refl _) _
  have kA : Blk (w2.alloc (.cells #[.slice u.s u.ns u.cs, .slice u.g u.ng u.cg, .slice u.b u.nb u.cb, .slice u.r u.nr u.cr, .slice u.t u.nt u.ct] 27)) w2.heap.size #[.slice u.s u.ns u.cs, .slice u.g u.ng u.cg, .slice u.b u.nb u.cb, .slice u.r u.nr u.cr, .slice u.t u.nt u.ct] 27 := Blk.new _ _ _
  have z0 : (w2.alloc (.cells #[.slice u.s u.ns u.cs, .slice u.g u.ng u.cg, .slice u.b u.nb u.cb, .slice u.r u.nr u.cr, .slice u.t u.nt u.ct] 27)).cell? ⟨w2.heap.size, 0, none⟩ = some (.slice u.s u.ns u.cs) := kA.cell 0 rfl
  have z1 : (w2.alloc (.cells #[.slice u.s u.ns u.cs, .slice u.g u.ng u.cg, .slice u.b u.nb u.cb, .slice u.r u.nr u.cr, .slice u.t u.nt u.ct] 27)).cell? ⟨w2.heap.size, 1, none⟩ = some (.slice u.g u.ng u.cg) := kA.cell 1 rfl
  have z2 : (w2.alloc (.cells #[.slice u.s u.ns u.cs, .slice u.g u.ng u.cg, .slice u.b u.nb u.cb, .slice u.r u.nr u.cr, .slice u.t u.nt u.ct] 27)).cell? ⟨w2.heap.size, 2, none⟩ = some (.slice u.b u.nb u.cb) := kA.cell 2 rfl
  have z3 : (w2.alloc (.cells #[.slice u.s u.ns u.cs, .slice u.g u.ng u.cg, .slice u.b u.nb u.cb, .slice u.r u.nr u.cr, .slice u.t u.nt u.ct] 27)).cell? ⟨w2.heap.size, 3, none⟩ = some (.slice u.r u.nr u.cr) := kA.cell 3 rfl
  have z4 : (w2.alloc (.cells #[.slice u.s u.ns u.cs, .slice u.g u.ng u.cg, .slice u.b u.nb u.cb, .slice u.r u.nr u.cr, .slice u.t u.nt u.ct] 27)).cell? ⟨w2.heap.size, 4, none⟩ = some (.slice u.t u.nt u.ct) := kA.cell 4 rfl
  replace B0 := B0.trans (bA.mono B0.size)
  replace B3 := B3.trans (bA.mono B3.size)
  replace y0 := keepc bA y0
  replace y1 := keepc bA y1
  replace y2 := keepc bA y2
  replace y3 := keepc bA y3
  replace y4 := keepc bA y4
  replace ou := ou.below bA
  have hs_z : w2.heap.size < (w2.alloc (.cells #[.slice u.s u.ns u.cs, .slice u.g u.ng u.cg, .slice u.b u.nb u.cb, .slice u.r u.nr u.cr, .slice u.t u.nt u.ct] 27)).heap.size := by simp
  clear kA bA
  clear hs_z
  go_wp2_with fail
  refine (eqProg_yes u gw rp _ ou.rd (rW.below B3) (HF.out.small.at ou.rd)).mono ?_
  rintro e w3 ⟨rfl, hb⟩
  replace B0 := B0.trans (hb.mono B0.size)
  replace B3 := B3.trans (hb.mono B3.size)
  replace y0 := keepc hb y0
  replace y1 := keepc hb y1
  replace y2 := keepc hb y2
  replace y3 := keepc hb y3
  replace y4 := keepc hb y4
  replace ou := ou.below hb
  replace z0 := keepc hb z0
  replace z1 := keepc hb z1
  replace z2 := keepc hb z2
  replace z3 := keepc hb z3
  replace z4 := keepc hb z4
  clear hb
  have h5u : Hid (u.ns ≤ 1048576 ∧ u.ng ≤ 1048576 ∧ u.nb ≤ 1048576 ∧ u.nr ≤ 1048576 ∧ u.nt ≤ 1048576) := Lib.hid (by have := HF.out.small.at ou.rd; exact ⟨this.ls, this.lg, this.lb, this.lr, this.lt⟩)
  have hR1 := HF.out.size
  go_wp2_with fail
  refine (markProg_any u us rp.cells 1 _ ou NDU.out (by omega) (by omega) h5u.out HF.out.rows).mono ?_
  rintro e w4 ⟨rfl, ou1, T⟩
  clear ou
  replace B0 := B0.trans (T.below B0.size (fun k hk => by have := FU.out k hk; have := hw1.out; have := h12.out; omega))
  replace B3 := B3.trans (T.below B3.size (fun k hk => by have := FU.out k hk; have := hw1.out; have := h12.out; omega))
  replace y0 := cell_touch T y0 (fun h => by have := FU.out w1.heap.size h; have := hw1.out; have := h12.out; omega)
  replace y1 := cell_touch T y1 (fun h => by have := FU.out w1.heap.size h; have := hw1.out; have := h12.out; omega)
  replace y2 := cell_touch T y2 (fun h => by have := FU.out w1.heap.size h; have := hw1.out; have := h12.out; omega)
  replace y3 := cell_touch T y3 (fun h => by have := FU.out w1.heap.size h; have := hw1.out; have := h12.out; omega)
  replace y4 := cell_touch T y4 (fun h => by have := FU.out w1.heap.size h; have := hw1.out; have := h12.out; omega)
  replace z0 := cell_touch T z0 (fun h => by have := FU.out w2.heap.size h; have := hw1.out; have := h12.out; omega)
  replace z1 := cell_touch T z1 (fun h => by have := FU.out w2.heap.size h; have := hw1.out; have := h12.out; omega)
  replace z2 := cell_touch T z2 (fun h => by have := FU.out w2.heap.size h; have := hw1.out; have := h12.out; omega)
  replace z3 := cell_touch T z3 (fun h => by have := FU.out w2.heap.size h; have := hw1.out; have := h12.out; omega)
  replace z4 := cell_touch T z4 (fun h => by have := FU.out w2.heap.size h; have := hw1.out; have := h12.out; omega)
  have hk1 : decide ((1 + (rp.cells.size : Int)) < 0) = false := decide_eq_false (by omega)
  clear T
  go_wp2_with fail
  refine (heldProg_yes u us rp.cells 1 _ ou1 (by omega) (by omega) h5u.out HF.out.rows).mono ?_
  rintro e w5 ⟨rfl, hb⟩
  replace B0 := B0.trans (hb.mono B0.size)
  replace B3 := B3.trans (hb.mono B3.size)
  replace y0 := keepc hb y0
  replace y1 := keepc hb y1
  replace y2 := keepc hb y2
  replace y3 := keepc hb y3
  replace y4 := keepc hb y4
  replace z0 := keepc hb z0
  replace z1 := keepc hb z1
  replace z2 := keepc hb z2
  replace z3 := keepc hb z3
  replace z4 := keepc hb z4
  replace ou1 := ou1.below hb
  clear hb
  go_wp2_with fail
  refine (implParseProg_any s _ (HL.out.below B0) HSZ.out).mono ?_
  rintro e w6 ⟨u3, us3, rfl, o3, nd3, fr3, sm3, hb⟩
  rw [HSB.out]
  rw [HRP.out] at o3
  clear nd3 fr3 sm3
  replace B0 := B0.trans (hb.mono B0.size)
  replace B3 := B3.trans (hb.mono B3.size)
  replace y0 := keepc hb y0
  replace y1 := keepc hb y1
  replace y2 := keepc hb y2
  replace y3 := keepc hb y3
  replace y4 := keepc hb y4
  replace z0 := keepc hb z0
  replace z1 := keepc hb z1
  replace z2 := keepc hb z2
  replace z3 := keepc hb z3
  replace z4 := keepc hb z4
  replace ou1 := ou1.below hb
  clear hb
  have bA : Below w6.heap.size w6 (w6.alloc (.cells #[.slice u3.s u3.ns u3.cs, .slice u3.g u3.ng u3.cg, .slice u3.b u3.nb u3.cb, .slice u3.r u3.nr u3.cr, .slice u3.t u3.nt u3.ct] 27)) := (Below.refl _ _).alloc (Nat.le_refl _) _
  have kA : Blk (w6.alloc (.cells #[.slice u3.s u3.ns u3.cs, .slice u3.g u3.ng u3.cg, .slice u3.b u3.nb u3.cb, .slice u3.r u3.nr u3.cr, .slice u3.t u3.nt u3.ct] 27)) w6.heap.size #[.slice u3.s u3.ns u3.cs, .slice u3.g u3.ng u3.cg, .slice u3.b u3.nb u3.cb, .slice u3.r u3.nr u3.cr, .slice u3.t u3.nt u3.ct] 27 := Blk.new _ _ _
  have t0 : (w6.alloc (.cells #[.slice u3.s u3.ns u3.cs, .slice u3.g u3.ng u3.cg, .slice u3.b u3.nb u3.cb, .slice u3.r u3.nr u3.cr, .slice u3.t u3.nt u3.ct] 27)).cell? ⟨w6.heap.size, 0, none⟩ = some (.slice u3.s u3.ns u3.cs) := kA.cell 0 rfl
  have t1 : (w6.alloc (.cells #[.slice u3.s u3.ns u3.cs, .slice u3.g u3.ng u3.cg, .slice u3.b u3.nb u3.cb, .slice u3.r u3.nr u3.cr, .slice u3.t u3.nt u3.ct] 27)).cell? ⟨w6.heap.size, 1, none⟩ = some (.slice u3.g u3.ng u3.cg) := kA.cell 1 rfl
  have t2 : (w6.alloc (.cells #[.slice u3.s u3.ns u3.cs, .slice u3.g u3.ng u3.cg, .slice u3.b u3.nb u3.cb, .slice u3.r u3.nr u3.cr, .slice u3.t u3.nt u3.ct] 27)).cell? ⟨w6.heap.size, 2, none⟩ = some (.slice u3.b u3.nb u3.cb) := kA.cell 2 rfl
  have t3 : (w6.alloc (.cells #[.slice u3.s u3.ns u3.cs, .slice u3.g u3.ng u3.cg, .slice u3.b u3.nb u3.cb, .slice u3.r u3.nr u3.cr, .slice u3.t u3.nt u3.ct] 27)).cell? ⟨w6.heap.size, 3, none⟩ = some (.slice u3.r u3.nr u3.cr) := kA.cell 3 rfl
  have t4 : (w6.alloc (.cells #[.slice u3.s u3.ns u3.cs, .slice u3.g u3.ng u3.cg, .slice u3.b u3.nb u3.cb, .slice u3.r u3.nr u3.cr, .slice u3.t u3.nt u3.ct] 27)).cell? ⟨w6.heap.size, 4, none⟩ = some (.slice u3.t u3.nt u3.ct) := kA.cell 4 rfl
  replace B0 := B0.trans (bA.mono B0.size)
  replace B3 := B3.trans (bA.mono B3.size)
  replace y0 := keepc bA y0
  replace y1 := keepc bA y1
  replace y2 := keepc bA y2
  replace y3 := keepc bA y3
  replace y4 := keepc bA y4
  replace z0 := keepc bA z0
  replace z1 := keepc bA z1
  replace z2 := keepc bA z2
  replace z3 := keepc bA z3
  replace z4 := keepc bA z4
  replace ou1 := ou1.below bA
  replace o3 := o3.below bA
  have hs_t : w6.heap.size < (w6.alloc (.cells #[.slice u3.s u3.ns u3.cs, .slice u3.g u3.ng u3.cg, .slice u3.b u3.nb u3.cb, .slice u3.r u3.nr u3.cr, .slice u3.t u3.nt u3.ct] 27)).heap.size := by simp
  clear kA bA
  clear hs_t
  go_wp2_with fail
  refine (eqProg_yes u3 gw rp _ o3.rd (rW.below B3) (HF.out.small.at o3.rd)).mono ?_
  rintro e w7 ⟨rfl, hb⟩
  replace B0 := B0.trans (hb.mono B0.size)
  replace B3 := B3.trans (hb.mono B3.size)
  replace y0 := keepc hb y0
  replace y1 := keepc hb y1
  replace y2 := keepc hb y2
  replace y3 := keepc hb y3
  replace y4 := keepc hb y4
  replace z0 := keepc hb z0
  replace z1 := keepc hb z1
  replace z2 := keepc hb z2
  replace z3 := keepc hb z3
  replace z4 := keepc hb z4
  replace ou1 := ou1.below hb
  replace o3 := o3.below hb
  replace t0 := keepc hb t0
  replace t1 := keepc hb t1
  replace t2 := keepc hb t2
  replace t3 := keepc hb t3
  replace t4 := keepc hb t4
  clear hb
  go_wp2_with fail
  refine (heldProg_yes u us rp.cells 1 _ ou1 (by omega) (by omega) h5u.out HF.out.rows).mono ?_
  rintro e w8 ⟨rfl, hb⟩
  replace B0 := B0.trans (hb.mono B0.size)
  replace B3 := B3.trans (hb.mono B3.size)
  replace y0 := keepc hb y0
  replace y1 := keepc hb y1
  replace y2 := keepc hb y2
  replace y3 := keepc hb y3
  replace y4 := keepc hb y4
  replace z0 := keepc hb z0
  replace z1 := keepc hb z1
  replace z2 := keepc hb z2
  replace z3 := keepc hb z3
  replace z4 := keepc hb z4
  replace ou1 := ou1.below hb
  replace o3 := o3.below hb
  replace t0 := keepc hb t0
  replace t1 := keepc hb t1
  replace t2 := keepc hb t2
  replace t3 := keepc hb t3
  replace t4 := keepc hb t4
  clear hb
  go_wp2
  go_ret
  exact ⟨rfl, B0⟩

end Go.Proofs.YthamndmfenpniaaGreatDoor
