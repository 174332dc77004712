/- The law FnDropOp: its walk. -/
import Derived.Test.YtnobkdkfhgjeeabPutPlain
import Derived.Test.YtnobkdkfhgjeeabDrop
import Derived.Test.YtnobkdkfhgjeeabDropSpec
import Derived.Test.YtnobkdkfhgjeeabStoreReg
import Derived.Deep.RegionHeld3
import Derived.Lib.QuietBelow
import Derived.BigQuiet
import Derived.IntWalk
namespace Go.Proofs.Ytnobkdkfhgjeeab
open Go.RowKit Go.Sort

set_option maxRecDepth 100000 in
set_option maxHeartbeats 4000000 in
theorem fnDropOpLaw (a : Option Addr) (n c : Nat) (bs : List Int) (w : World) (hl : bs.length = n) (h1 : Rd w a (bytesV bs)) (hmx : n ≤ maxLen) (hcap : n ≤ c) (hby : ∀ b ∈ bs, 0 ≤ b ∧ b ≤ 255) :
    Calls Try.prog 6 #[.slice a n c] w fun e w' => e = .returned (.bool true) ∧ Below w.heap.size w w' := by
  unfold maxLen at hmx
  have HL := Lib.hid hl
  have HBY := Lib.hid hby
  clear hl hby
  by_cases hn : n ≤ 1048576
  · have hC := Lib.hid (Code13.mk HL.out h1 hcap HBY.out hn)
    clear HL HBY h1
    go_enter Try.func6, Try.ntmps6
    go_wp2_with fail
    refine (drawDropOp_any a n c bs w hC.out).mono ?_
    rintro e w1 ⟨v, vs, p, x, y, rfl, hxy, o1, hb⟩
    have HB := Lib.hid hb
    have HR := Lib.hid o1.own.rd
    have HF := Lib.hid o1.few
    have HZ := Lib.hid (o1.small (by omega))
    have HO := Lib.hid o1.own
    clear hb o1 hC
    have bb : Below w1.heap.size w1 (w1.alloc (.cells #[.slice v.s v.ns v.cs, .slice v.g v.ng v.cg, .slice v.b v.nb v.cb, .slice v.r v.nr v.cr, .slice v.t v.nt v.ct] 26)) := (Below.refl _ _).alloc (Nat.le_refl _) _
    have kp : Blk (w1.alloc (.cells #[.slice v.s v.ns v.cs, .slice v.g v.ng v.cg, .slice v.b v.nb v.cb, .slice v.r v.nr v.cr, .slice v.t v.nt v.ct] 26)) w1.heap.size #[.slice v.s v.ns v.cs, .slice v.g v.ng v.cg, .slice v.b v.nb v.cb, .slice v.r v.nr v.cr, .slice v.t v.nt v.ct] 26 := Blk.new _ _ _
    replace HR := Lib.hid (HR.out.below bb)
    replace HO := Lib.hid (HO.out.below bb)
    replace HB := Lib.hid (HB.out.trans (bb.mono HB.out.size))
    clear bb
    have ckp0 := kp.cell 0 rfl
    have ckp1 := kp.cell 1 rfl
    have ckp2 := kp.cell 2 rfl
    have ckp3 := kp.cell 3 rfl
    have ckp4 := kp.cell 4 rfl
    go_wp2_with fail
    refine (implDropOp_any v p x y _ HR.out HZ.out).mono ?_
    rintro e w2 ⟨u, us, rfl, o2, nd2, fr2, hb⟩
    have HU := Lib.hid o2.rd
    have HOU := Lib.hid o2
    clear o2 nd2 fr2
    replace HR := Lib.hid (HR.out.below hb)
    replace HO := Lib.hid (HO.out.below hb)
    replace kp := kp.below hb
    replace HB := Lib.hid (HB.out.trans (hb.mono HB.out.size))
    clear hb
    clear ckp0 ckp1 ckp2 ckp3 ckp4
    have bb : Below w2.heap.size w2 (w2.alloc (.cells #[.slice u.s u.ns u.cs, .slice u.g u.ng u.cg, .slice u.b u.nb u.cb, .slice u.r u.nr u.cr, .slice u.t u.nt u.ct] 26)) := (Below.refl _ _).alloc (Nat.le_refl _) _
    have ku : Blk (w2.alloc (.cells #[.slice u.s u.ns u.cs, .slice u.g u.ng u.cg, .slice u.b u.nb u.cb, .slice u.r u.nr u.cr, .slice u.t u.nt u.ct] 26)) w2.heap.size #[.slice u.s u.ns u.cs, .slice u.g u.ng u.cg, .slice u.b u.nb u.cb, .slice u.r u.nr u.cr, .slice u.t u.nt u.ct] 26 := Blk.new _ _ _
    replace HR := Lib.hid (HR.out.below bb)
    replace HO := Lib.hid (HO.out.below bb)
    replace HU := Lib.hid (HU.out.below bb)
    replace HOU := Lib.hid (HOU.out.below bb)
    replace kp := kp.below bb
    replace HB := Lib.hid (HB.out.trans (bb.mono HB.out.size))
    clear bb
    have ckp0 := kp.cell 0 rfl
    have ckp1 := kp.cell 1 rfl
    have ckp2 := kp.cell 2 rfl
    have ckp3 := kp.cell 3 rfl
    have ckp4 := kp.cell 4 rfl
    have cku0 := ku.cell 0 rfl
    have cku1 := ku.cell 1 rfl
    have cku2 := ku.cell 2 rfl
    have cku3 := ku.cell 3 rfl
    have cku4 := ku.cell 4 rfl
    go_wp2_with fail
    refine (specDropOp_any v p x y _ HR.out HZ.out HO.out.cap).mono ?_
    rintro e w3 ⟨t, rfl, r3, hb⟩
    have HT := Lib.hid r3
    clear r3
    replace HR := Lib.hid (HR.out.below hb)
    replace HO := Lib.hid (HO.out.below hb)
    replace HU := Lib.hid (HU.out.below hb)
    replace HOU := Lib.hid (HOU.out.below hb)
    replace kp := kp.below hb
    replace ku := ku.below hb
    replace HB := Lib.hid (HB.out.trans (hb.mono HB.out.size))
    clear hb
    clear ckp0 ckp1 ckp2 ckp3 ckp4 cku0 cku1 cku2 cku3 cku4
    have bb : Below w3.heap.size w3 (w3.alloc (.cells #[.slice t.s t.ns t.cs, .slice t.g t.ng t.cg, .slice t.b t.nb t.cb, .slice t.r t.nr t.cr, .slice t.t t.nt t.ct] 26)) := (Below.refl _ _).alloc (Nat.le_refl _) _
    have kt : Blk (w3.alloc (.cells #[.slice t.s t.ns t.cs, .slice t.g t.ng t.cg, .slice t.b t.nb t.cb, .slice t.r t.nr t.cr, .slice t.t t.nt t.ct] 26)) w3.heap.size #[.slice t.s t.ns t.cs, .slice t.g t.ng t.cg, .slice t.b t.nb t.cb, .slice t.r t.nr t.cr, .slice t.t t.nt t.ct] 26 := Blk.new _ _ _
    replace HR := Lib.hid (HR.out.below bb)
    replace HO := Lib.hid (HO.out.below bb)
    replace HU := Lib.hid (HU.out.below bb)
    replace HOU := Lib.hid (HOU.out.below bb)
    replace HT := Lib.hid (HT.out.below bb)
    replace kp := kp.below bb
    replace ku := ku.below bb
    replace HB := Lib.hid (HB.out.trans (bb.mono HB.out.size))
    clear bb
    cases hq : dropOp p x y with
    | none =>
      rw [hq] at HU HOU HT
      simp only [Option.isSome_none, Option.getD_none] at HU HOU HT ⊢
      clear hq
      have HZU := Lib.hid ((few_noPg 10).small' HU.out (by omega))
      have t1 : decide (noPg = noPg) = true := by simp
      have ckp0 := kp.cell 0 rfl
      have ckp1 := kp.cell 1 rfl
      have ckp2 := kp.cell 2 rfl
      have ckp3 := kp.cell 3 rfl
      have ckp4 := kp.cell 4 rfl
      have cku0 := ku.cell 0 rfl
      have cku1 := ku.cell 1 rfl
      have cku2 := ku.cell 2 rfl
      have cku3 := ku.cell 3 rfl
      have cku4 := ku.cell 4 rfl
      have ckt0 := kt.cell 0 rfl
      have ckt1 := kt.cell 1 rfl
      have ckt2 := kt.cell 2 rfl
      have ckt3 := kt.cell 3 rfl
      have ckt4 := kt.cell 4 rfl
      go_wp2_with fail
      refine (implProgSame_any u t noPg noPg _ HU.out HT.out HZU.out).mono ?_
      rintro e w4 ⟨rfl, hb⟩
      replace HR := Lib.hid (HR.out.below hb)
      replace HO := Lib.hid (HO.out.below hb)
      replace HU := Lib.hid (HU.out.below hb)
      replace HOU := Lib.hid (HOU.out.below hb)
      replace HT := Lib.hid (HT.out.below hb)
      replace kp := kp.below hb
      replace ku := ku.below hb
      replace kt := kt.below hb
      replace HB := Lib.hid (HB.out.trans (hb.mono HB.out.size))
      clear hb
      clear ckp0 ckp1 ckp2 ckp3 ckp4 cku0 cku1 cku2 cku3 cku4 ckt0 ckt1 ckt2 ckt3 ckt4
      have ckp0 := kp.cell 0 rfl
      have ckp1 := kp.cell 1 rfl
      have ckp2 := kp.cell 2 rfl
      have ckp3 := kp.cell 3 rfl
      have ckp4 := kp.cell 4 rfl
      have cku0 := ku.cell 0 rfl
      have cku1 := ku.cell 1 rfl
      have cku2 := ku.cell 2 rfl
      have cku3 := ku.cell 3 rfl
      have cku4 := ku.cell 4 rfl
      have ckt0 := kt.cell 0 rfl
      have ckt1 := kt.cell 1 rfl
      have ckt2 := kt.cell 2 rfl
      have ckt3 := kt.cell 3 rfl
      have ckt4 := kt.cell 4 rfl
      go_wp2_with fail
      refine (implProgSame_any u t noPg noPg _ HU.out HT.out HZU.out).mono ?_
      rintro e w5 ⟨rfl, hb⟩
      replace HR := Lib.hid (HR.out.below hb)
      replace HO := Lib.hid (HO.out.below hb)
      replace HU := Lib.hid (HU.out.below hb)
      replace HOU := Lib.hid (HOU.out.below hb)
      replace HT := Lib.hid (HT.out.below hb)
      replace kp := kp.below hb
      replace ku := ku.below hb
      replace kt := kt.below hb
      replace HB := Lib.hid (HB.out.trans (hb.mono HB.out.size))
      clear hb
      clear ckp0 ckp1 ckp2 ckp3 ckp4 cku0 cku1 cku2 cku3 cku4 ckt0 ckt1 ckt2 ckt3 ckt4
      go_wp2
      go_ret
      exact ⟨rfl, HB.out⟩
    | some q =>
      rw [hq] at HU HOU HT
      simp only [Option.isSome_some, Option.getD_some] at HU HOU HT ⊢
      obtain ⟨hvp, hvq, i, j, rfl, rfl, hi, hj, eq⟩ := dropOp_some hq
      clear hq hxy
      have h8 := ((valid_ops hvp).2.2 _ (getD_mem' [] p.threads i hi)).1
      have he : ((p.threads.getD i []).eraseIdx j).length + 1 = (p.threads.getD i []).length := by rw [List.length_eraseIdx, if_pos hj]; omega
      have HZU := Lib.hid ((few_set (i := i) (t := (p.threads.getD i []).eraseIdx j) HF.out (by omega)).small' (by rw [← eq]; exact HU.out) (by omega))
      rw [← eq] at HZU
      have HPB := Lib.hid (put_back hvp hvq hi hj eq)
      have HVQ := Lib.hid hvq
      clear he eq hvq
      have t1 : decide (q = q) = true := by simp
      have ckp0 := kp.cell 0 rfl
      have ckp1 := kp.cell 1 rfl
      have ckp2 := kp.cell 2 rfl
      have ckp3 := kp.cell 3 rfl
      have ckp4 := kp.cell 4 rfl
      have cku0 := ku.cell 0 rfl
      have cku1 := ku.cell 1 rfl
      have cku2 := ku.cell 2 rfl
      have cku3 := ku.cell 3 rfl
      have cku4 := ku.cell 4 rfl
      have ckt0 := kt.cell 0 rfl
      have ckt1 := kt.cell 1 rfl
      have ckt2 := kt.cell 2 rfl
      have ckt3 := kt.cell 3 rfl
      have ckt4 := kt.cell 4 rfl
      go_wp2_with fail
      refine (implProgSame_any u t q q _ HU.out HT.out HZU.out).mono ?_
      rintro e w4 ⟨rfl, hb⟩
      replace HR := Lib.hid (HR.out.below hb)
      replace HO := Lib.hid (HO.out.below hb)
      replace HU := Lib.hid (HU.out.below hb)
      replace HOU := Lib.hid (HOU.out.below hb)
      replace HT := Lib.hid (HT.out.below hb)
      replace kp := kp.below hb
      replace ku := ku.below hb
      replace kt := kt.below hb
      replace HB := Lib.hid (HB.out.trans (hb.mono HB.out.size))
      clear hb
      clear ckp0 ckp1 ckp2 ckp3 ckp4 cku0 cku1 cku2 cku3 cku4 ckt0 ckt1 ckt2 ckt3 ckt4
      have lp4 : v.nt ≤ 4 := by have := HR.out.lt; have := (valid_thr hvp).1; omega
      have HLP := Lib.hid HR.out.lt
      obtain ⟨b, o, ev, ec⟩ := HR.out.thr (by omega)
      obtain ⟨a', c', ec, er⟩ := ec i hi
      obtain ⟨b2, o2, ea, eo⟩ := Rd.op er (by omega)
      obtain ⟨eo0, eo1, eo2⟩ := eo j hj
      obtain ⟨m, hm⟩ : ∃ m, m = (p.threads.getD i []).length := ⟨_, rfl⟩
      obtain ⟨od, hod⟩ : ∃ od, od = (p.threads.getD i []).getD j noOp := ⟨_, rfl⟩
      rw [← hm] at ec h8 hj
      rw [← hod] at eo0 eo1 eo2 HPB
      have i0 : (0 : Int) ≤ (i : Int) := by omega
      have i1 : (i : Int) < (v.nt : Int) := by have := HLP.out; omega
      have j0 : (0 : Int) ≤ (j : Int) := by omega
      have j1 : (j : Int) < (m : Int) := by omega
      clear hm hod er eo hvp hi
      have ckp0 := kp.cell 0 rfl
      have ckp1 := kp.cell 1 rfl
      have ckp2 := kp.cell 2 rfl
      have ckp3 := kp.cell 3 rfl
      have ckp4 := kp.cell 4 rfl
      have cku0 := ku.cell 0 rfl
      have cku1 := ku.cell 1 rfl
      have cku2 := ku.cell 2 rfl
      have cku3 := ku.cell 3 rfl
      have cku4 := ku.cell 4 rfl
      have ckt0 := kt.cell 0 rfl
      have ckt1 := kt.cell 1 rfl
      have ckt2 := kt.cell 2 rfl
      have ckt3 := kt.cell 3 rfl
      have ckt4 := kt.cell 4 rfl
      rw [ev] at ckp4
      rw [ea] at ec
      rw [decide_eq_true (rfl : q = q)]
      clear t1 ea
      have hS : ∀ w', Below w4.heap.size w4 w' → ((w'.cell? ⟨w2.heap.size, 0, none⟩ = some (.slice u.s u.ns u.cs) ∧ w'.cell? ⟨w2.heap.size, 1, none⟩ = some (.slice u.g u.ng u.cg) ∧ w'.cell? ⟨w2.heap.size, 2, none⟩ = some (.slice u.b u.nb u.cb) ∧ w'.cell? ⟨w2.heap.size, 3, none⟩ = some (.slice u.r u.nr u.cr) ∧ w'.cell? ⟨w2.heap.size, 4, none⟩ = some (.slice u.t u.nt u.ct) ∧ w'.cell? ⟨w1.heap.size, 4, none⟩ = some (.slice (some ⟨b, o, none⟩) v.nt v.ct) ∧ w'.cell? ⟨b, o + i, none⟩ = some (.slice (some ⟨b2, o2, none⟩) m c') ∧ w'.cell? ⟨b2, o2 + j * 3, none⟩ = some (.int .i64 od.kind) ∧ w'.cell? ⟨b2, o2 + j * 3 + 1, none⟩ = some (.int .i64 od.on) ∧ w'.cell? ⟨b2, o2 + j * 3 + 2, none⟩ = some (.int .i64 od.arg)) ∧ Below w4.heap.size w4 w') := fun w' h => ⟨⟨keepc h cku0, keepc h cku1, keepc h cku2, keepc h cku3, keepc h cku4, keepc h ckp4, keepc h ec, keepc h eo0, keepc h eo1, keepc h eo2⟩, h⟩
      have hb1 : Below w4.heap.size w4 w4.drew := (Below.refl _ _).drew
      go_wp2_with fail
      go_region_held3 (fun w' => (w'.cell? ⟨w2.heap.size, 0, none⟩ = some (.slice u.s u.ns u.cs) ∧ w'.cell? ⟨w2.heap.size, 1, none⟩ = some (.slice u.g u.ng u.cg) ∧ w'.cell? ⟨w2.heap.size, 2, none⟩ = some (.slice u.b u.nb u.cb) ∧ w'.cell? ⟨w2.heap.size, 3, none⟩ = some (.slice u.r u.nr u.cr) ∧ w'.cell? ⟨w2.heap.size, 4, none⟩ = some (.slice u.t u.nt u.ct) ∧ w'.cell? ⟨w1.heap.size, 4, none⟩ = some (.slice (some ⟨b, o, none⟩) v.nt v.ct) ∧ w'.cell? ⟨b, o + i, none⟩ = some (.slice (some ⟨b2, o2, none⟩) m c') ∧ w'.cell? ⟨b2, o2 + j * 3, none⟩ = some (.int .i64 od.kind) ∧ w'.cell? ⟨b2, o2 + j * 3 + 1, none⟩ = some (.int .i64 od.on) ∧ w'.cell? ⟨b2, o2 + j * 3 + 2, none⟩ = some (.int .i64 od.arg)) ∧ Below w4.heap.size w4 w') (first | (with_reducible exact hS _ hb1) | (with_reducible exact hS _ hB5) | (with_reducible exact hS _ (hB5.alloc hB5.size _)) | (with_reducible exact hS _ (keepa (by assumption) _)) | (with_reducible exact hS _ (((((hB5.setCell (Nat.le_refl _) _).setCell (Nat.le_refl _) _).setCell (Nat.le_refl _) _).setCell (Nat.le_refl _) _).setCell (Nat.le_refl _) _))) ((go_at_call 20; refine (implPutOp_any u q i j od _ (HU.out.below (And.right (by assumption : _ ∧ Below w4.heap.size w4 _))) HZU.out).mono ?_; rintro e w5 ⟨z, zs, rfl, o5, nd5, fr5, hb⟩; rw [HPB.out] at o5; rw [HPB.out]; simp only [Option.isSome_some, Option.getD_some] at o5 ⊢; have hs5 := hb.size; have hBx := And.right (by assumption : _ ∧ Below w4.heap.size w4 _); have hB5 := hBx.trans (hb.mono hBx.size); (try (have kz : Blk w5 w4.heap.size #[.slice none 0 0, .slice none 0 0, .slice none 0 0, .slice none 0 0, .slice none 0 0] 26 := Blk.below (show Blk ((w4.alloc (.cells #[.slice none 0 0, .slice none 0 0, .slice none 0 0, .slice none 0 0, .slice none 0 0] 26)).drew) w4.heap.size #[.slice none 0 0, .slice none 0 0, .slice none 0 0, .slice none 0 0, .slice none 0 0] 26 from Blk.new w4 _ _) hb; have kc0 := kz.cell 0 rfl; have kf0 := kz.fz 0; have kc1 := kz.cell 1 rfl; have kf1 := kz.fz 1; have kc2 := kz.cell 2 rfl; have kf2 := kz.fz 2; have kc3 := kz.cell 3 rfl; have kf3 := kz.fz 3; have kc4 := kz.cell 4 rfl; have kf4 := kz.fz 4))))
      · clear ckp0 ckp1 ckp2 ckp3 ckp4 cku0 cku1 cku2 cku3 cku4 ckt0 ckt1 ckt2 ckt3 ckt4 ec eo0 eo1 eo2
        obtain ⟨W9, hW9⟩ : ∃ W9, W9 = w5.alloc (.cells #[.slice z.s z.ns z.cs, .slice z.g z.ng z.cg, .slice z.b z.nb z.cb, .slice z.r z.nr z.cr, .slice z.t z.nt z.ct] 26) := ⟨_, rfl⟩
        have hB9 := Lib.hid (hB5.alloc hB5.size (.cells #[.slice z.s z.ns z.cs, .slice z.g z.ng z.cg, .slice z.b z.nb z.cb, .slice z.r z.nr z.cr, .slice z.t z.nt z.ct] 26))
        have kz := Blk.new w5 #[.slice z.s z.ns z.cs, .slice z.g z.ng z.cg, .slice z.b z.nb z.cb, .slice z.r z.nr z.cr, .slice z.t z.nt z.ct] 26
        have HZZ := Lib.hid (o5.rd.below ((Below.refl w5.heap.size w5).alloc (Nat.le_refl _) (.cells #[.slice z.s z.ns z.cs, .slice z.g z.ng z.cg, .slice z.b z.nb z.cb, .slice z.r z.nr z.cr, .slice z.t z.nt z.ct] 26)))
        rw [← hW9] at hB9 kz HZZ
        rw [← hW9]
        clear hW9
        have HR9 := Lib.hid (HR.out.below hB9.out)
        have HU9 := Lib.hid (HU.out.below hB9.out)
        have kp9 := kp.below hB9.out
        have ku9 := ku.below hB9.out
        have HB9 := Lib.hid (HB.out.trans (hB9.out.mono HB.out.size))
        have HZP := Lib.hid (HF.out.small' HZZ.out (by omega))
        clear ev hS hb1 hB5 HU HR HT HOU HO kp ku kt hB9 hb o5
        have t1 : decide (p = p) = true := by simp
        have ckp90 := kp9.cell 0 rfl
        have ckp91 := kp9.cell 1 rfl
        have ckp92 := kp9.cell 2 rfl
        have ckp93 := kp9.cell 3 rfl
        have ckp94 := kp9.cell 4 rfl
        have cku90 := ku9.cell 0 rfl
        have cku91 := ku9.cell 1 rfl
        have cku92 := ku9.cell 2 rfl
        have cku93 := ku9.cell 3 rfl
        have cku94 := ku9.cell 4 rfl
        have ckz0 := kz.cell 0 rfl
        have ckz1 := kz.cell 1 rfl
        have ckz2 := kz.cell 2 rfl
        have ckz3 := kz.cell 3 rfl
        have ckz4 := kz.cell 4 rfl
        go_wp2_with fail
        refine (implProgValid_any u q _ HU9.out HZU.out).mono ?_
        rintro e w10 ⟨rfl, hb⟩
        rw [HVQ.out]
        replace HR9 := Lib.hid (HR9.out.below hb)
        replace HU9 := Lib.hid (HU9.out.below hb)
        replace HZZ := Lib.hid (HZZ.out.below hb)
        replace kp9 := kp9.below hb
        replace ku9 := ku9.below hb
        replace kz := kz.below hb
        replace HB9 := Lib.hid (HB9.out.trans (hb.mono HB9.out.size))
        clear hb
        clear ckp90 ckp91 ckp92 ckp93 ckp94 cku90 cku91 cku92 cku93 cku94 ckz0 ckz1 ckz2 ckz3 ckz4
        have ckp90 := kp9.cell 0 rfl
        have ckp91 := kp9.cell 1 rfl
        have ckp92 := kp9.cell 2 rfl
        have ckp93 := kp9.cell 3 rfl
        have ckp94 := kp9.cell 4 rfl
        have cku90 := ku9.cell 0 rfl
        have cku91 := ku9.cell 1 rfl
        have cku92 := ku9.cell 2 rfl
        have cku93 := ku9.cell 3 rfl
        have cku94 := ku9.cell 4 rfl
        have ckz0 := kz.cell 0 rfl
        have ckz1 := kz.cell 1 rfl
        have ckz2 := kz.cell 2 rfl
        have ckz3 := kz.cell 3 rfl
        have ckz4 := kz.cell 4 rfl
        go_wp2_with fail
        refine (implProgSame_any z v p p _ HZZ.out HR9.out HZP.out).mono ?_
        rintro e w11 ⟨rfl, hb⟩
        rw [decide_eq_true (rfl : p = p)]
        replace HR9 := Lib.hid (HR9.out.below hb)
        replace HU9 := Lib.hid (HU9.out.below hb)
        replace HZZ := Lib.hid (HZZ.out.below hb)
        replace kp9 := kp9.below hb
        replace ku9 := ku9.below hb
        replace kz := kz.below hb
        replace HB9 := Lib.hid (HB9.out.trans (hb.mono HB9.out.size))
        clear hb
        clear ckp90 ckp91 ckp92 ckp93 ckp94 cku90 cku91 cku92 cku93 cku94 ckz0 ckz1 ckz2 ckz3 ckz4
        go_wp2
        go_ret
        exact ⟨rfl, HB9.out⟩
      · have hTP := TP.store (B := w4.heap.size) (a0 := .slice z.s z.ns z.cs) (a1 := .slice z.g z.ng z.cg) (a2 := .slice z.b z.nb z.cb) (a3 := .slice z.r z.nr z.cr) (a4 := .slice z.t z.nt z.ct) kz (Nat.le_refl _)
        obtain ⟨hT1, hT2⟩ := hTP
        clear kz
        clear ckp0 ckp1 ckp2 ckp3 ckp4 cku0 cku1 cku2 cku3 cku4 ckt0 ckt1 ckt2 ckt3 ckt4 ec eo0 eo1 eo2 kc0 kc1 kc2 kc3 kc4 kf0 kf1 kf2 kf3 kf4
        obtain ⟨W9, hW9⟩ : ∃ W9, W9 = ((((w5.setCell ⟨w4.heap.size, 0, none⟩ (.slice z.s z.ns z.cs)).setCell ⟨w4.heap.size, 1, none⟩ (.slice z.g z.ng z.cg)).setCell ⟨w4.heap.size, 2, none⟩ (.slice z.b z.nb z.cb)).setCell ⟨w4.heap.size, 3, none⟩ (.slice z.r z.nr z.cr)).setCell ⟨w4.heap.size, 4, none⟩ (.slice z.t z.nt z.ct) := ⟨_, rfl⟩
        have hB9 := Lib.hid (hB5.trans hT1.bel)
        have kz := hT2
        have HZZ := Lib.hid ((o5.tp hT1).rd)
        rw [← hW9] at hB9 kz HZZ
        rw [← hW9]
        clear hW9
        have HR9 := Lib.hid (HR.out.below hB9.out)
        have HU9 := Lib.hid (HU.out.below hB9.out)
        have kp9 := kp.below hB9.out
        have ku9 := ku.below hB9.out
        have HB9 := Lib.hid (HB.out.trans (hB9.out.mono HB.out.size))
        have HZP := Lib.hid (HF.out.small' HZZ.out (by omega))
        clear ev hS hb1 hB5 HU HR HT HOU HO kp ku kt hB9 hb o5
        have t1 : decide (p = p) = true := by simp
        have ckp90 := kp9.cell 0 rfl
        have ckp91 := kp9.cell 1 rfl
        have ckp92 := kp9.cell 2 rfl
        have ckp93 := kp9.cell 3 rfl
        have ckp94 := kp9.cell 4 rfl
        have cku90 := ku9.cell 0 rfl
        have cku91 := ku9.cell 1 rfl
        have cku92 := ku9.cell 2 rfl
        have cku93 := ku9.cell 3 rfl
        have cku94 := ku9.cell 4 rfl
        have ckz0 := kz.cell 0 rfl
        have ckz1 := kz.cell 1 rfl
        have ckz2 := kz.cell 2 rfl
        have ckz3 := kz.cell 3 rfl
        have ckz4 := kz.cell 4 rfl
        go_wp2_with fail
        refine (implProgValid_any u q _ HU9.out HZU.out).mono ?_
        rintro e w10 ⟨rfl, hb⟩
        rw [HVQ.out]
        replace HR9 := Lib.hid (HR9.out.below hb)
        replace HU9 := Lib.hid (HU9.out.below hb)
        replace HZZ := Lib.hid (HZZ.out.below hb)
        replace kp9 := kp9.below hb
        replace ku9 := ku9.below hb
        replace kz := kz.below hb
        replace HB9 := Lib.hid (HB9.out.trans (hb.mono HB9.out.size))
        clear hb
        clear ckp90 ckp91 ckp92 ckp93 ckp94 cku90 cku91 cku92 cku93 cku94 ckz0 ckz1 ckz2 ckz3 ckz4
        have ckp90 := kp9.cell 0 rfl
        have ckp91 := kp9.cell 1 rfl
        have ckp92 := kp9.cell 2 rfl
        have ckp93 := kp9.cell 3 rfl
        have ckp94 := kp9.cell 4 rfl
        have cku90 := ku9.cell 0 rfl
        have cku91 := ku9.cell 1 rfl
        have cku92 := ku9.cell 2 rfl
        have cku93 := ku9.cell 3 rfl
        have cku94 := ku9.cell 4 rfl
        have ckz0 := kz.cell 0 rfl
        have ckz1 := kz.cell 1 rfl
        have ckz2 := kz.cell 2 rfl
        have ckz3 := kz.cell 3 rfl
        have ckz4 := kz.cell 4 rfl
        go_wp2_with fail
        refine (implProgSame_any z v p p _ HZZ.out HR9.out HZP.out).mono ?_
        rintro e w11 ⟨rfl, hb⟩
        rw [decide_eq_true (rfl : p = p)]
        replace HR9 := Lib.hid (HR9.out.below hb)
        replace HU9 := Lib.hid (HU9.out.below hb)
        replace HZZ := Lib.hid (HZZ.out.below hb)
        replace kp9 := kp9.below hb
        replace ku9 := ku9.below hb
        replace kz := kz.below hb
        replace HB9 := Lib.hid (HB9.out.trans (hb.mono HB9.out.size))
        clear hb
        clear ckp90 ckp91 ckp92 ckp93 ckp94 cku90 cku91 cku92 cku93 cku94 ckz0 ckz1 ckz2 ckz3 ckz4
        go_wp2
        go_ret
        exact ⟨rfl, HB9.out⟩
  · go_enter Try.func6, Try.ntmps6
    go_wp2
    go_ret
    exact ⟨rfl, Below.refl _ _⟩

end Go.Proofs.Ytnobkdkfhgjeeab
