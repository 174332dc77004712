/- The law FnProgText: its walk. -/
import Derived.Test.YthamndmfenpniaaGreatDoorPProg
import Derived.Test.YthamndmfenpniaaGreatDoorDrawParse
import Derived.Test.YthamndmfenpniaaGreatDoorBaseE
import Derived.Test.YthamndmfenpniaaGreatDoorShortL
import Derived.BigQuiet
import Derived.IntWalk
namespace Go.Proofs.YthamndmfenpniaaGreatDoor
open Go.RowKit Go.Sort

set_option maxRecDepth 100000 in
set_option maxHeartbeats 8000000 in
theorem fnProgTextLaw (a : Option Addr) (n c : Nat) (bs : List Int) (a2 : Option Addr) (n2 c2 : Nat) (bs2 : List Int) (w : World) (hLd : Laid2 w) (hl : bs.length = n) (h1 : Rd w a (bytesV bs)) (hmx : n ≤ maxLen) (hcap : n ≤ c) (hby : ∀ b ∈ bs, 0 ≤ b ∧ b ≤ 255) (hl2 : bs2.length = n2) (h12 : Rd w a2 (bytesV bs2)) (hmx2 : n2 ≤ maxLen) (hcap2 : n2 ≤ c2) (hby2 : ∀ b ∈ bs2, 0 ≤ b ∧ b ≤ 255) :
    Calls Tryz.prog 4 #[.slice a n c, .slice a2 n2 c2] w fun e w' => e = .returned (.bool true) ∧ Below w.heap.size w w' := by
  unfold maxLen at hmx hmx2
  have HL := Lib.hid hl
  have HBY := Lib.hid hby
  have HL2 := Lib.hid hl2
  have HBY2 := Lib.hid hby2
  clear hl hby hl2 hby2
  by_cases hn : n ≤ 1048576
  · by_cases hn2 : n2 ≤ 1048576
    · have HC1 := Lib.hid (Code13.mk HL.out h1 hcap HBY.out hn)
      have HC2 := Lib.hid (Code13.mk HL2.out h12 hcap2 HBY2.out hn2)
      have HLD := Lib.hid hLd
      clear HL HBY h1 hLd HL2 HBY2 h12
      go_enter Tryz.func4, Tryz.ntmps4
      go_wp2_with fail
      refine (drawFormatProg_any a n c bs w HC1.out).mono ?_
      rintro e w1 ⟨v, vs, p, rfl, o1, hb⟩
      have HB := Lib.hid hb
      have HR := Lib.hid o1.own.rd
      have HZ := Lib.hid (o1.small (by omega))
      clear HC1 o1
      replace HLD := Lib.hid (HLD.out.below hb)
      replace HC2 := Lib.hid (HC2.out.below hb)
      clear hb
      have bb : Below w1.heap.size w1 (w1.alloc (.cells #[.slice v.s v.ns v.cs, .slice v.g v.ng v.cg, .slice v.b v.nb v.cb, .slice v.r v.nr v.cr, .slice v.t v.nt v.ct] 27)) := (Below.refl _ _).alloc (Nat.le_refl _) _
      have kp : Blk (w1.alloc (.cells #[.slice v.s v.ns v.cs, .slice v.g v.ng v.cg, .slice v.b v.nb v.cb, .slice v.r v.nr v.cr, .slice v.t v.nt v.ct] 27)) w1.heap.size #[.slice v.s v.ns v.cs, .slice v.g v.ng v.cg, .slice v.b v.nb v.cb, .slice v.r v.nr v.cr, .slice v.t v.nt v.ct] 27 := Blk.new _ _ _
      replace HLD := Lib.hid (HLD.out.below bb)
      replace HC2 := Lib.hid (HC2.out.below bb)
      replace HR := Lib.hid (HR.out.below bb)
      replace HB := Lib.hid (HB.out.trans (bb.mono HB.out.size))
      clear bb
      obtain ⟨T, hT⟩ : ∃ T, T = fmtProg p := ⟨_, rfl⟩
      have HTX := Lib.hid hT
      have HTS : Hid (T.size ≤ 1048576) := Lib.hid (by rw [hT]; have := fmtProg_size p; omega)
      have HPT : Hid (parseProg T = if progValid p = true then some p else none) := Lib.hid (by rw [hT]; exact parse_of_fmt p)
      have tT : (T.toList == T.toList) = true := by simp
      clear hT
      have ckp0 := kp.cell 0 rfl
      have ckp1 := kp.cell 1 rfl
      have ckp2 := kp.cell 2 rfl
      have ckp3 := kp.cell 3 rfl
      have ckp4 := kp.cell 4 rfl
      go_wp2_with fail
      refine (implFormatProg_any v p _ HLD.out.laid HR.out HZ.out).mono ?_
      rintro e w2 ⟨rfl, hb⟩
      rw [← HTX.out]
      replace HLD := Lib.hid (HLD.out.below hb)
      replace HC2 := Lib.hid (HC2.out.below hb)
      replace HR := Lib.hid (HR.out.below hb)
      replace kp := kp.below hb
      replace HB := Lib.hid (HB.out.trans (hb.mono HB.out.size))
      clear hb
      clear ckp0 ckp1 ckp2 ckp3 ckp4
      have ckp0 := kp.cell 0 rfl
      have ckp1 := kp.cell 1 rfl
      have ckp2 := kp.cell 2 rfl
      have ckp3 := kp.cell 3 rfl
      have ckp4 := kp.cell 4 rfl
      go_wp2_with fail
      refine (implParseProg_any T _ HLD.out HTS.out).mono ?_
      rintro e w3 ⟨u, us, rfl, ou, nd, fr, su, hb⟩
      rw [HPT.out] at ou su ⊢
      have HU := Lib.hid ou.rd
      have HZU := Lib.hid su
      clear ou nd fr su
      replace HLD := Lib.hid (HLD.out.below hb)
      replace HC2 := Lib.hid (HC2.out.below hb)
      replace HR := Lib.hid (HR.out.below hb)
      replace kp := kp.below hb
      replace HB := Lib.hid (HB.out.trans (hb.mono HB.out.size))
      clear hb
      clear ckp0 ckp1 ckp2 ckp3 ckp4
      have bb : Below w3.heap.size w3 (w3.alloc (.cells #[.slice u.s u.ns u.cs, .slice u.g u.ng u.cg, .slice u.b u.nb u.cb, .slice u.r u.nr u.cr, .slice u.t u.nt u.ct] 27)) := (Below.refl _ _).alloc (Nat.le_refl _) _
      have ku : Blk (w3.alloc (.cells #[.slice u.s u.ns u.cs, .slice u.g u.ng u.cg, .slice u.b u.nb u.cb, .slice u.r u.nr u.cr, .slice u.t u.nt u.ct] 27)) w3.heap.size #[.slice u.s u.ns u.cs, .slice u.g u.ng u.cg, .slice u.b u.nb u.cb, .slice u.r u.nr u.cr, .slice u.t u.nt u.ct] 27 := Blk.new _ _ _
      replace HLD := Lib.hid (HLD.out.below bb)
      replace HC2 := Lib.hid (HC2.out.below bb)
      replace HR := Lib.hid (HR.out.below bb)
      replace HU := Lib.hid (HU.out.below bb)
      replace kp := kp.below bb
      replace HB := Lib.hid (HB.out.trans (bb.mono HB.out.size))
      clear bb
      cases hv : progValid p with
      | false =>
        have HV := Lib.hid hv
        rw [hv] at HU HZU
        simp only [Bool.false_eq_true, if_false, Option.isSome_none, Option.getD_none] at HU HZU ⊢
        clear hv
        have ckp0 := kp.cell 0 rfl
        have ckp1 := kp.cell 1 rfl
        have ckp2 := kp.cell 2 rfl
        have ckp3 := kp.cell 3 rfl
        have ckp4 := kp.cell 4 rfl
        have cku0 := ku.cell 0 rfl
        have cku1 := ku.cell 1 rfl
        have cku2 := ku.cell 2 rfl
        have cku3 := ku.cell 3 rfl
        have cku4 := ku.cell 4 rfl
        go_wp2_with fail
        refine (implProgValid_any v p _ HR.out HZ.out).mono ?_
        rintro e w4 ⟨rfl, hb⟩
        rw [HV.out]
        replace HLD := Lib.hid (HLD.out.below hb)
        replace HC2 := Lib.hid (HC2.out.below hb)
        replace HR := Lib.hid (HR.out.below hb)
        replace HU := Lib.hid (HU.out.below hb)
        replace kp := kp.below hb
        replace ku := ku.below hb
        replace HB := Lib.hid (HB.out.trans (hb.mono HB.out.size))
        clear hb
        clear ckp0 ckp1 ckp2 ckp3 ckp4 cku0 cku1 cku2 cku3 cku4
        have ckp0 := kp.cell 0 rfl
        have ckp1 := kp.cell 1 rfl
        have ckp2 := kp.cell 2 rfl
        have ckp3 := kp.cell 3 rfl
        have ckp4 := kp.cell 4 rfl
        have cku0 := ku.cell 0 rfl
        have cku1 := ku.cell 1 rfl
        have cku2 := ku.cell 2 rfl
        have cku3 := ku.cell 3 rfl
        have cku4 := ku.cell 4 rfl
        go_wp2_with fail
        refine (specFormatProg_any v p _ HR.out HZ.out).mono ?_
        rintro e w5 ⟨rfl, hb⟩
        rw [← HTX.out]
        replace HLD := Lib.hid (HLD.out.below hb)
        replace HC2 := Lib.hid (HC2.out.below hb)
        replace HR := Lib.hid (HR.out.below hb)
        replace HU := Lib.hid (HU.out.below hb)
        replace kp := kp.below hb
        replace ku := ku.below hb
        replace HB := Lib.hid (HB.out.trans (hb.mono HB.out.size))
        clear hb
        clear ckp0 ckp1 ckp2 ckp3 ckp4 cku0 cku1 cku2 cku3 cku4
        have ckp0 := kp.cell 0 rfl
        have ckp1 := kp.cell 1 rfl
        have ckp2 := kp.cell 2 rfl
        have ckp3 := kp.cell 3 rfl
        have ckp4 := kp.cell 4 rfl
        have cku0 := ku.cell 0 rfl
        have cku1 := ku.cell 1 rfl
        have cku2 := ku.cell 2 rfl
        have cku3 := ku.cell 3 rfl
        have cku4 := ku.cell 4 rfl
        go_wp2_with fail
        refine (specProgValid_any v p _ HR.out HZ.out).mono ?_
        rintro e w6 ⟨rfl, hb⟩
        rw [HV.out]
        replace HLD := Lib.hid (HLD.out.below hb)
        replace HC2 := Lib.hid (HC2.out.below hb)
        replace HR := Lib.hid (HR.out.below hb)
        replace HU := Lib.hid (HU.out.below hb)
        replace kp := kp.below hb
        replace ku := ku.below hb
        replace HB := Lib.hid (HB.out.trans (hb.mono HB.out.size))
        clear hb
        clear ckp0 ckp1 ckp2 ckp3 ckp4 cku0 cku1 cku2 cku3 cku4
        have ckp0 := kp.cell 0 rfl
        have ckp1 := kp.cell 1 rfl
        have ckp2 := kp.cell 2 rfl
        have ckp3 := kp.cell 3 rfl
        have ckp4 := kp.cell 4 rfl
        have cku0 := ku.cell 0 rfl
        have cku1 := ku.cell 1 rfl
        have cku2 := ku.cell 2 rfl
        have cku3 := ku.cell 3 rfl
        have cku4 := ku.cell 4 rfl
        go_wp2_with fail
        refine (drawParseProg_any a2 n2 c2 bs2 _ HC2.out).mono ?_
        rintro e w7 ⟨s, rfl, hs, hb⟩
        have HS : Hid (s.size ≤ 1048576 ∧ s.size ≤ 4294967296) := Lib.hid ⟨by omega, by omega⟩
        clear hs
        replace HLD := Lib.hid (HLD.out.below hb)
        replace HC2 := Lib.hid (HC2.out.below hb)
        replace HR := Lib.hid (HR.out.below hb)
        replace HU := Lib.hid (HU.out.below hb)
        replace kp := kp.below hb
        replace ku := ku.below hb
        replace HB := Lib.hid (HB.out.trans (hb.mono HB.out.size))
        clear hb
        clear ckp0 ckp1 ckp2 ckp3 ckp4 cku0 cku1 cku2 cku3 cku4
        clear HC2
        have ckp0 := kp.cell 0 rfl
        have ckp1 := kp.cell 1 rfl
        have ckp2 := kp.cell 2 rfl
        have ckp3 := kp.cell 3 rfl
        have ckp4 := kp.cell 4 rfl
        have cku0 := ku.cell 0 rfl
        have cku1 := ku.cell 1 rfl
        have cku2 := ku.cell 2 rfl
        have cku3 := ku.cell 3 rfl
        have cku4 := ku.cell 4 rfl
        go_wp2_with fail
        refine (implParseProg_any s _ HLD.out HS.out.1).mono ?_
        rintro e w8 ⟨x, xs, rfl, ox, nd, fr, sx, hb⟩
        have HX := Lib.hid ox.rd
        have HZX := Lib.hid sx
        clear ox nd fr sx
        replace HLD := Lib.hid (HLD.out.below hb)
        replace HR := Lib.hid (HR.out.below hb)
        replace HU := Lib.hid (HU.out.below hb)
        replace kp := kp.below hb
        replace ku := ku.below hb
        replace HB := Lib.hid (HB.out.trans (hb.mono HB.out.size))
        clear hb
        clear ckp0 ckp1 ckp2 ckp3 ckp4 cku0 cku1 cku2 cku3 cku4
        have bb : Below w8.heap.size w8 (w8.alloc (.cells #[.slice x.s x.ns x.cs, .slice x.g x.ng x.cg, .slice x.b x.nb x.cb, .slice x.r x.nr x.cr, .slice x.t x.nt x.ct] 27)) := (Below.refl _ _).alloc (Nat.le_refl _) _
        have kx : Blk (w8.alloc (.cells #[.slice x.s x.ns x.cs, .slice x.g x.ng x.cg, .slice x.b x.nb x.cb, .slice x.r x.nr x.cr, .slice x.t x.nt x.ct] 27)) w8.heap.size #[.slice x.s x.ns x.cs, .slice x.g x.ng x.cg, .slice x.b x.nb x.cb, .slice x.r x.nr x.cr, .slice x.t x.nt x.ct] 27 := Blk.new _ _ _
        replace HLD := Lib.hid (HLD.out.below bb)
        replace HR := Lib.hid (HR.out.below bb)
        replace HU := Lib.hid (HU.out.below bb)
        replace HX := Lib.hid (HX.out.below bb)
        replace kp := kp.below bb
        replace ku := ku.below bb
        replace HB := Lib.hid (HB.out.trans (bb.mono HB.out.size))
        clear bb
        have ckp0 := kp.cell 0 rfl
        have ckp1 := kp.cell 1 rfl
        have ckp2 := kp.cell 2 rfl
        have ckp3 := kp.cell 3 rfl
        have ckp4 := kp.cell 4 rfl
        have cku0 := ku.cell 0 rfl
        have cku1 := ku.cell 1 rfl
        have cku2 := ku.cell 2 rfl
        have cku3 := ku.cell 3 rfl
        have cku4 := ku.cell 4 rfl
        have ckx0 := kx.cell 0 rfl
        have ckx1 := kx.cell 1 rfl
        have ckx2 := kx.cell 2 rfl
        have ckx3 := kx.cell 3 rfl
        have ckx4 := kx.cell 4 rfl
        go_wp2_with fail
        refine (specParseProg_any s _ HS.out.2).mono ?_
        rintro e w9 ⟨y, ys, rfl, oy, fr, sy, hb⟩
        have HY := Lib.hid oy.rd
        clear oy fr sy
        replace HLD := Lib.hid (HLD.out.below hb)
        replace HR := Lib.hid (HR.out.below hb)
        replace HU := Lib.hid (HU.out.below hb)
        replace HX := Lib.hid (HX.out.below hb)
        replace kp := kp.below hb
        replace ku := ku.below hb
        replace kx := kx.below hb
        replace HB := Lib.hid (HB.out.trans (hb.mono HB.out.size))
        clear hb
        clear ckp0 ckp1 ckp2 ckp3 ckp4 cku0 cku1 cku2 cku3 cku4 ckx0 ckx1 ckx2 ckx3 ckx4
        have bb : Below w9.heap.size w9 (w9.alloc (.cells #[.slice y.s y.ns y.cs, .slice y.g y.ng y.cg, .slice y.b y.nb y.cb, .slice y.r y.nr y.cr, .slice y.t y.nt y.ct] 27)) := (Below.refl _ _).alloc (Nat.le_refl _) _
        have ky : Blk (w9.alloc (.cells #[.slice y.s y.ns y.cs, .slice y.g y.ng y.cg, .slice y.b y.nb y.cb, .slice y.r y.nr y.cr, .slice y.t y.nt y.ct] 27)) w9.heap.size #[.slice y.s y.ns y.cs, .slice y.g y.ng y.cg, .slice y.b y.nb y.cb, .slice y.r y.nr y.cr, .slice y.t y.nt y.ct] 27 := Blk.new _ _ _
        replace HLD := Lib.hid (HLD.out.below bb)
        replace HR := Lib.hid (HR.out.below bb)
        replace HU := Lib.hid (HU.out.below bb)
        replace HX := Lib.hid (HX.out.below bb)
        replace HY := Lib.hid (HY.out.below bb)
        replace kp := kp.below bb
        replace ku := ku.below bb
        replace kx := kx.below bb
        replace HB := Lib.hid (HB.out.trans (bb.mono HB.out.size))
        clear bb
        cases hq : parseProg s with
        | none =>
          rw [hq] at HX HY HZX
          simp only [Option.isSome_none, Option.getD_none] at HX HY HZX ⊢
          clear hq
          have t1 : decide (zeroPg = zeroPg) = true := by simp
          have ckp0 := kp.cell 0 rfl
          have ckp1 := kp.cell 1 rfl
          have ckp2 := kp.cell 2 rfl
          have ckp3 := kp.cell 3 rfl
          have ckp4 := kp.cell 4 rfl
          have cku0 := ku.cell 0 rfl
          have cku1 := ku.cell 1 rfl
          have cku2 := ku.cell 2 rfl
          have cku3 := ku.cell 3 rfl
          have cku4 := ku.cell 4 rfl
          have ckx0 := kx.cell 0 rfl
          have ckx1 := kx.cell 1 rfl
          have ckx2 := kx.cell 2 rfl
          have ckx3 := kx.cell 3 rfl
          have ckx4 := kx.cell 4 rfl
          have cky0 := ky.cell 0 rfl
          have cky1 := ky.cell 1 rfl
          have cky2 := ky.cell 2 rfl
          have cky3 := ky.cell 3 rfl
          have cky4 := ky.cell 4 rfl
          go_wp2_with fail
          refine (implProgSame_any x y zeroPg zeroPg _ HX.out HY.out HZX.out).mono ?_
          rintro e wa ⟨rfl, hb⟩
          replace HLD := Lib.hid (HLD.out.below hb)
          replace HR := Lib.hid (HR.out.below hb)
          replace HU := Lib.hid (HU.out.below hb)
          replace HX := Lib.hid (HX.out.below hb)
          replace HY := Lib.hid (HY.out.below hb)
          replace kp := kp.below hb
          replace ku := ku.below hb
          replace kx := kx.below hb
          replace ky := ky.below hb
          replace HB := Lib.hid (HB.out.trans (hb.mono HB.out.size))
          clear hb
          clear ckp0 ckp1 ckp2 ckp3 ckp4 cku0 cku1 cku2 cku3 cku4 ckx0 ckx1 ckx2 ckx3 ckx4 cky0 cky1 cky2 cky3 cky4
          go_wp2
          go_ret
          exact ⟨rfl, HB.out⟩
        | some g =>
          have HGT : Hid (fmtProg g = s) := Lib.hid (parse_iff.1 hq).2
          rw [hq] at HX HY HZX
          simp only [Option.isSome_some, Option.getD_some] at HX HY HZX ⊢
          clear hq
          have t1 : decide (g = g) = true := by simp
          have tS : (s.toList == s.toList) = true := by simp
          have ckp0 := kp.cell 0 rfl
          have ckp1 := kp.cell 1 rfl
          have ckp2 := kp.cell 2 rfl
          have ckp3 := kp.cell 3 rfl
          have ckp4 := kp.cell 4 rfl
          have cku0 := ku.cell 0 rfl
          have cku1 := ku.cell 1 rfl
          have cku2 := ku.cell 2 rfl
          have cku3 := ku.cell 3 rfl
          have cku4 := ku.cell 4 rfl
          have ckx0 := kx.cell 0 rfl
          have ckx1 := kx.cell 1 rfl
          have ckx2 := kx.cell 2 rfl
          have ckx3 := kx.cell 3 rfl
          have ckx4 := kx.cell 4 rfl
          have cky0 := ky.cell 0 rfl
          have cky1 := ky.cell 1 rfl
          have cky2 := ky.cell 2 rfl
          have cky3 := ky.cell 3 rfl
          have cky4 := ky.cell 4 rfl
          go_wp2_with fail
          refine (implProgSame_any x y g g _ HX.out HY.out HZX.out).mono ?_
          rintro e wa ⟨rfl, hb⟩
          replace HLD := Lib.hid (HLD.out.below hb)
          replace HR := Lib.hid (HR.out.below hb)
          replace HU := Lib.hid (HU.out.below hb)
          replace HX := Lib.hid (HX.out.below hb)
          replace HY := Lib.hid (HY.out.below hb)
          replace kp := kp.below hb
          replace ku := ku.below hb
          replace kx := kx.below hb
          replace ky := ky.below hb
          replace HB := Lib.hid (HB.out.trans (hb.mono HB.out.size))
          clear hb
          clear ckp0 ckp1 ckp2 ckp3 ckp4 cku0 cku1 cku2 cku3 cku4 ckx0 ckx1 ckx2 ckx3 ckx4 cky0 cky1 cky2 cky3 cky4
          have ckp0 := kp.cell 0 rfl
          have ckp1 := kp.cell 1 rfl
          have ckp2 := kp.cell 2 rfl
          have ckp3 := kp.cell 3 rfl
          have ckp4 := kp.cell 4 rfl
          have cku0 := ku.cell 0 rfl
          have cku1 := ku.cell 1 rfl
          have cku2 := ku.cell 2 rfl
          have cku3 := ku.cell 3 rfl
          have cku4 := ku.cell 4 rfl
          have ckx0 := kx.cell 0 rfl
          have ckx1 := kx.cell 1 rfl
          have ckx2 := kx.cell 2 rfl
          have ckx3 := kx.cell 3 rfl
          have ckx4 := kx.cell 4 rfl
          have cky0 := ky.cell 0 rfl
          have cky1 := ky.cell 1 rfl
          have cky2 := ky.cell 2 rfl
          have cky3 := ky.cell 3 rfl
          have cky4 := ky.cell 4 rfl
          go_wp2_with fail
          refine (implFormatProg_any x g _ HLD.out.laid HX.out HZX.out).mono ?_
          rintro e wb ⟨rfl, hb⟩
          rw [HGT.out]
          replace HLD := Lib.hid (HLD.out.below hb)
          replace HR := Lib.hid (HR.out.below hb)
          replace HU := Lib.hid (HU.out.below hb)
          replace HX := Lib.hid (HX.out.below hb)
          replace HY := Lib.hid (HY.out.below hb)
          replace kp := kp.below hb
          replace ku := ku.below hb
          replace kx := kx.below hb
          replace ky := ky.below hb
          replace HB := Lib.hid (HB.out.trans (hb.mono HB.out.size))
          clear hb
          clear ckp0 ckp1 ckp2 ckp3 ckp4 cku0 cku1 cku2 cku3 cku4 ckx0 ckx1 ckx2 ckx3 ckx4 cky0 cky1 cky2 cky3 cky4
          go_wp2
          go_ret
          exact ⟨rfl, HB.out⟩
      | true =>
        have HV := Lib.hid hv
        rw [hv] at HU HZU
        simp only [if_true, Option.isSome_some, Option.getD_some] at HU HZU ⊢
        clear hv
        have t0 : decide (p = p) = true := by simp
        have ckp0 := kp.cell 0 rfl
        have ckp1 := kp.cell 1 rfl
        have ckp2 := kp.cell 2 rfl
        have ckp3 := kp.cell 3 rfl
        have ckp4 := kp.cell 4 rfl
        have cku0 := ku.cell 0 rfl
        have cku1 := ku.cell 1 rfl
        have cku2 := ku.cell 2 rfl
        have cku3 := ku.cell 3 rfl
        have cku4 := ku.cell 4 rfl
        go_wp2_with fail
        refine (implProgValid_any v p _ HR.out HZ.out).mono ?_
        rintro e w4 ⟨rfl, hb⟩
        rw [HV.out]
        replace HLD := Lib.hid (HLD.out.below hb)
        replace HC2 := Lib.hid (HC2.out.below hb)
        replace HR := Lib.hid (HR.out.below hb)
        replace HU := Lib.hid (HU.out.below hb)
        replace kp := kp.below hb
        replace ku := ku.below hb
        replace HB := Lib.hid (HB.out.trans (hb.mono HB.out.size))
        clear hb
        clear ckp0 ckp1 ckp2 ckp3 ckp4 cku0 cku1 cku2 cku3 cku4
        have ckp0 := kp.cell 0 rfl
        have ckp1 := kp.cell 1 rfl
        have ckp2 := kp.cell 2 rfl
        have ckp3 := kp.cell 3 rfl
        have ckp4 := kp.cell 4 rfl
        have cku0 := ku.cell 0 rfl
        have cku1 := ku.cell 1 rfl
        have cku2 := ku.cell 2 rfl
        have cku3 := ku.cell 3 rfl
        have cku4 := ku.cell 4 rfl
        go_wp2_with fail
        refine (specFormatProg_any v p _ HR.out HZ.out).mono ?_
        rintro e w5 ⟨rfl, hb⟩
        rw [← HTX.out]
        replace HLD := Lib.hid (HLD.out.below hb)
        replace HC2 := Lib.hid (HC2.out.below hb)
        replace HR := Lib.hid (HR.out.below hb)
        replace HU := Lib.hid (HU.out.below hb)
        replace kp := kp.below hb
        replace ku := ku.below hb
        replace HB := Lib.hid (HB.out.trans (hb.mono HB.out.size))
        clear hb
        clear ckp0 ckp1 ckp2 ckp3 ckp4 cku0 cku1 cku2 cku3 cku4
        have ckp0 := kp.cell 0 rfl
        have ckp1 := kp.cell 1 rfl
        have ckp2 := kp.cell 2 rfl
        have ckp3 := kp.cell 3 rfl
        have ckp4 := kp.cell 4 rfl
        have cku0 := ku.cell 0 rfl
        have cku1 := ku.cell 1 rfl
        have cku2 := ku.cell 2 rfl
        have cku3 := ku.cell 3 rfl
        have cku4 := ku.cell 4 rfl
        go_wp2_with fail
        refine (specProgValid_any v p _ HR.out HZ.out).mono ?_
        rintro e w6 ⟨rfl, hb⟩
        rw [HV.out]
        replace HLD := Lib.hid (HLD.out.below hb)
        replace HC2 := Lib.hid (HC2.out.below hb)
        replace HR := Lib.hid (HR.out.below hb)
        replace HU := Lib.hid (HU.out.below hb)
        replace kp := kp.below hb
        replace ku := ku.below hb
        replace HB := Lib.hid (HB.out.trans (hb.mono HB.out.size))
        clear hb
        clear ckp0 ckp1 ckp2 ckp3 ckp4 cku0 cku1 cku2 cku3 cku4
        have ckp0 := kp.cell 0 rfl
        have ckp1 := kp.cell 1 rfl
        have ckp2 := kp.cell 2 rfl
        have ckp3 := kp.cell 3 rfl
        have ckp4 := kp.cell 4 rfl
        have cku0 := ku.cell 0 rfl
        have cku1 := ku.cell 1 rfl
        have cku2 := ku.cell 2 rfl
        have cku3 := ku.cell 3 rfl
        have cku4 := ku.cell 4 rfl
        go_wp2_with fail
        refine (implProgSame_any u v p p _ HU.out HR.out HZU.out).mono ?_
        rintro e w6b ⟨rfl, hb⟩
        replace HLD := Lib.hid (HLD.out.below hb)
        replace HC2 := Lib.hid (HC2.out.below hb)
        replace HR := Lib.hid (HR.out.below hb)
        replace HU := Lib.hid (HU.out.below hb)
        replace kp := kp.below hb
        replace ku := ku.below hb
        replace HB := Lib.hid (HB.out.trans (hb.mono HB.out.size))
        clear hb
        clear ckp0 ckp1 ckp2 ckp3 ckp4 cku0 cku1 cku2 cku3 cku4
        have ckp0 := kp.cell 0 rfl
        have ckp1 := kp.cell 1 rfl
        have ckp2 := kp.cell 2 rfl
        have ckp3 := kp.cell 3 rfl
        have ckp4 := kp.cell 4 rfl
        have cku0 := ku.cell 0 rfl
        have cku1 := ku.cell 1 rfl
        have cku2 := ku.cell 2 rfl
        have cku3 := ku.cell 3 rfl
        have cku4 := ku.cell 4 rfl
        go_wp2_with fail
        refine (drawParseProg_any a2 n2 c2 bs2 _ HC2.out).mono ?_
        rintro e w7 ⟨s, rfl, hs, hb⟩
        have HS : Hid (s.size ≤ 1048576 ∧ s.size ≤ 4294967296) := Lib.hid ⟨by omega, by omega⟩
        clear hs
        replace HLD := Lib.hid (HLD.out.below hb)
        replace HC2 := Lib.hid (HC2.out.below hb)
        replace HR := Lib.hid (HR.out.below hb)
        replace HU := Lib.hid (HU.out.below hb)
        replace kp := kp.below hb
        replace ku := ku.below hb
        replace HB := Lib.hid (HB.out.trans (hb.mono HB.out.size))
        clear hb
        clear ckp0 ckp1 ckp2 ckp3 ckp4 cku0 cku1 cku2 cku3 cku4
        clear HC2
        have ckp0 := kp.cell 0 rfl
        have ckp1 := kp.cell 1 rfl
        have ckp2 := kp.cell 2 rfl
        have ckp3 := kp.cell 3 rfl
        have ckp4 := kp.cell 4 rfl
        have cku0 := ku.cell 0 rfl
        have cku1 := ku.cell 1 rfl
        have cku2 := ku.cell 2 rfl
        have cku3 := ku.cell 3 rfl
        have cku4 := ku.cell 4 rfl
        go_wp2_with fail
        refine (implParseProg_any s _ HLD.out HS.out.1).mono ?_
        rintro e w8 ⟨x, xs, rfl, ox, nd, fr, sx, hb⟩
        have HX := Lib.hid ox.rd
        have HZX := Lib.hid sx
        clear ox nd fr sx
        replace HLD := Lib.hid (HLD.out.below hb)
        replace HR := Lib.hid (HR.out.below hb)
        replace HU := Lib.hid (HU.out.below hb)
        replace kp := kp.below hb
        replace ku := ku.below hb
        replace HB := Lib.hid (HB.out.trans (hb.mono HB.out.size))
        clear hb
        clear ckp0 ckp1 ckp2 ckp3 ckp4 cku0 cku1 cku2 cku3 cku4
        have bb : Below w8.heap.size w8 (w8.alloc (.cells #[.slice x.s x.ns x.cs, .slice x.g x.ng x.cg, .slice x.b x.nb x.cb, .slice x.r x.nr x.cr, .slice x.t x.nt x.ct] 27)) := (Below.refl _ _).alloc (Nat.le_refl _) _
        have kx : Blk (w8.alloc (.cells #[.slice x.s x.ns x.cs, .slice x.g x.ng x.cg, .slice x.b x.nb x.cb, .slice x.r x.nr x.cr, .slice x.t x.nt x.ct] 27)) w8.heap.size #[.slice x.s x.ns x.cs, .slice x.g x.ng x.cg, .slice x.b x.nb x.cb, .slice x.r x.nr x.cr, .slice x.t x.nt x.ct] 27 := Blk.new _ _ _
        replace HLD := Lib.hid (HLD.out.below bb)
        replace HR := Lib.hid (HR.out.below bb)
        replace HU := Lib.hid (HU.out.below bb)
        replace HX := Lib.hid (HX.out.below bb)
        replace kp := kp.below bb
        replace ku := ku.below bb
        replace HB := Lib.hid (HB.out.trans (bb.mono HB.out.size))
        clear bb
        have ckp0 := kp.cell 0 rfl
        have ckp1 := kp.cell 1 rfl
        have ckp2 := kp.cell 2 rfl
        have ckp3 := kp.cell 3 rfl
        have ckp4 := kp.cell 4 rfl
        have cku0 := ku.cell 0 rfl
        have cku1 := ku.cell 1 rfl
        have cku2 := ku.cell 2 rfl
        have cku3 := ku.cell 3 rfl
        have cku4 := ku.cell 4 rfl
        have ckx0 := kx.cell 0 rfl
        have ckx1 := kx.cell 1 rfl
        have ckx2 := kx.cell 2 rfl
        have ckx3 := kx.cell 3 rfl
        have ckx4 := kx.cell 4 rfl
        go_wp2_with fail
        refine (specParseProg_any s _ HS.out.2).mono ?_
        rintro e w9 ⟨y, ys, rfl, oy, fr, sy, hb⟩
        have HY := Lib.hid oy.rd
        clear oy fr sy
        replace HLD := Lib.hid (HLD.out.below hb)
        replace HR := Lib.hid (HR.out.below hb)
        replace HU := Lib.hid (HU.out.below hb)
        replace HX := Lib.hid (HX.out.below hb)
        replace kp := kp.below hb
        replace ku := ku.below hb
        replace kx := kx.below hb
        replace HB := Lib.hid (HB.out.trans (hb.mono HB.out.size))
        clear hb
        clear ckp0 ckp1 ckp2 ckp3 ckp4 cku0 cku1 cku2 cku3 cku4 ckx0 ckx1 ckx2 ckx3 ckx4
        have bb : Below w9.heap.size w9 (w9.alloc (.cells #[.slice y.s y.ns y.cs, .slice y.g y.ng y.cg, .slice y.b y.nb y.cb, .slice y.r y.nr y.cr, .slice y.t y.nt y.ct] 27)) := (Below.refl _ _).alloc (Nat.le_refl _) _
        have ky : Blk (w9.alloc (.cells #[.slice y.s y.ns y.cs, .slice y.g y.ng y.cg, .slice y.b y.nb y.cb, .slice y.r y.nr y.cr, .slice y.t y.nt y.ct] 27)) w9.heap.size #[.slice y.s y.ns y.cs, .slice y.g y.ng y.cg, .slice y.b y.nb y.cb, .slice y.r y.nr y.cr, .slice y.t y.nt y.ct] 27 := Blk.new _ _ _
        replace HLD := Lib.hid (HLD.out.below bb)
        replace HR := Lib.hid (HR.out.below bb)
        replace HU := Lib.hid (HU.out.below bb)
        replace HX := Lib.hid (HX.out.below bb)
        replace HY := Lib.hid (HY.out.below bb)
        replace kp := kp.below bb
        replace ku := ku.below bb
        replace kx := kx.below bb
        replace HB := Lib.hid (HB.out.trans (bb.mono HB.out.size))
        clear bb
        cases hq : parseProg s with
        | none =>
          rw [hq] at HX HY HZX
          simp only [Option.isSome_none, Option.getD_none] at HX HY HZX ⊢
          clear hq
          have t1 : decide (zeroPg = zeroPg) = true := by simp
          have ckp0 := kp.cell 0 rfl
          have ckp1 := kp.cell 1 rfl
          have ckp2 := kp.cell 2 rfl
          have ckp3 := kp.cell 3 rfl
          have ckp4 := kp.cell 4 rfl
          have cku0 := ku.cell 0 rfl
          have cku1 := ku.cell 1 rfl
          have cku2 := ku.cell 2 rfl
          have cku3 := ku.cell 3 rfl
          have cku4 := ku.cell 4 rfl
          have ckx0 := kx.cell 0 rfl
          have ckx1 := kx.cell 1 rfl
          have ckx2 := kx.cell 2 rfl
          have ckx3 := kx.cell 3 rfl
          have ckx4 := kx.cell 4 rfl
          have cky0 := ky.cell 0 rfl
          have cky1 := ky.cell 1 rfl
          have cky2 := ky.cell 2 rfl
          have cky3 := ky.cell 3 rfl
          have cky4 := ky.cell 4 rfl
          go_wp2_with fail
          refine (implProgSame_any x y zeroPg zeroPg _ HX.out HY.out HZX.out).mono ?_
          rintro e wa ⟨rfl, hb⟩
          replace HLD := Lib.hid (HLD.out.below hb)
          replace HR := Lib.hid (HR.out.below hb)
          replace HU := Lib.hid (HU.out.below hb)
          replace HX := Lib.hid (HX.out.below hb)
          replace HY := Lib.hid (HY.out.below hb)
          replace kp := kp.below hb
          replace ku := ku.below hb
          replace kx := kx.below hb
          replace ky := ky.below hb
          replace HB := Lib.hid (HB.out.trans (hb.mono HB.out.size))
          clear hb
          clear ckp0 ckp1 ckp2 ckp3 ckp4 cku0 cku1 cku2 cku3 cku4 ckx0 ckx1 ckx2 ckx3 ckx4 cky0 cky1 cky2 cky3 cky4
          go_wp2
          go_ret
          exact ⟨rfl, HB.out⟩
        | some g =>
          have HGT : Hid (fmtProg g = s) := Lib.hid (parse_iff.1 hq).2
          rw [hq] at HX HY HZX
          simp only [Option.isSome_some, Option.getD_some] at HX HY HZX ⊢
          clear hq
          have t1 : decide (g = g) = true := by simp
          have tS : (s.toList == s.toList) = true := by simp
          have ckp0 := kp.cell 0 rfl
          have ckp1 := kp.cell 1 rfl
          have ckp2 := kp.cell 2 rfl
          have ckp3 := kp.cell 3 rfl
          have ckp4 := kp.cell 4 rfl
          have cku0 := ku.cell 0 rfl
          have cku1 := ku.cell 1 rfl
          have cku2 := ku.cell 2 rfl
          have cku3 := ku.cell 3 rfl
          have cku4 := ku.cell 4 rfl
          have ckx0 := kx.cell 0 rfl
          have ckx1 := kx.cell 1 rfl
          have ckx2 := kx.cell 2 rfl
          have ckx3 := kx.cell 3 rfl
          have ckx4 := kx.cell 4 rfl
          have cky0 := ky.cell 0 rfl
          have cky1 := ky.cell 1 rfl
          have cky2 := ky.cell 2 rfl
          have cky3 := ky.cell 3 rfl
          have cky4 := ky.cell 4 rfl
          go_wp2_with fail
          refine (implProgSame_any x y g g _ HX.out HY.out HZX.out).mono ?_
          rintro e wa ⟨rfl, hb⟩
          replace HLD := Lib.hid (HLD.out.below hb)
          replace HR := Lib.hid (HR.out.below hb)
          replace HU := Lib.hid (HU.out.below hb)
          replace HX := Lib.hid (HX.out.below hb)
          replace HY := Lib.hid (HY.out.below hb)
          replace kp := kp.below hb
          replace ku := ku.below hb
          replace kx := kx.below hb
          replace ky := ky.below hb
          replace HB := Lib.hid (HB.out.trans (hb.mono HB.out.size))
          clear hb
          clear ckp0 ckp1 ckp2 ckp3 ckp4 cku0 cku1 cku2 cku3 cku4 ckx0 ckx1 ckx2 ckx3 ckx4 cky0 cky1 cky2 cky3 cky4
          have ckp0 := kp.cell 0 rfl
          have ckp1 := kp.cell 1 rfl
          have ckp2 := kp.cell 2 rfl
          have ckp3 := kp.cell 3 rfl
          have ckp4 := kp.cell 4 rfl
          have cku0 := ku.cell 0 rfl
          have cku1 := ku.cell 1 rfl
          have cku2 := ku.cell 2 rfl
          have cku3 := ku.cell 3 rfl
          have cku4 := ku.cell 4 rfl
          have ckx0 := kx.cell 0 rfl
          have ckx1 := kx.cell 1 rfl
          have ckx2 := kx.cell 2 rfl
          have ckx3 := kx.cell 3 rfl
          have ckx4 := kx.cell 4 rfl
          have cky0 := ky.cell 0 rfl
          have cky1 := ky.cell 1 rfl
          have cky2 := ky.cell 2 rfl
          have cky3 := ky.cell 3 rfl
          have cky4 := ky.cell 4 rfl
          go_wp2_with fail
          refine (implFormatProg_any x g _ HLD.out.laid HX.out HZX.out).mono ?_
          rintro e wb ⟨rfl, hb⟩
          rw [HGT.out]
          replace HLD := Lib.hid (HLD.out.below hb)
          replace HR := Lib.hid (HR.out.below hb)
          replace HU := Lib.hid (HU.out.below hb)
          replace HX := Lib.hid (HX.out.below hb)
          replace HY := Lib.hid (HY.out.below hb)
          replace kp := kp.below hb
          replace ku := ku.below hb
          replace kx := kx.below hb
          replace ky := ky.below hb
          replace HB := Lib.hid (HB.out.trans (hb.mono HB.out.size))
          clear hb
          clear ckp0 ckp1 ckp2 ckp3 ckp4 cku0 cku1 cku2 cku3 cku4 ckx0 ckx1 ckx2 ckx3 ckx4 cky0 cky1 cky2 cky3 cky4
          go_wp2
          go_ret
          exact ⟨rfl, HB.out⟩
    · go_enter Tryz.func4, Tryz.ntmps4
      go_wp2
      go_ret
      exact ⟨rfl, Below.refl _ _⟩
  · go_enter Tryz.func4, Tryz.ntmps4
    go_wp2
    go_ret
    exact ⟨rfl, Below.refl _ _⟩

end Go.Proofs.YthamndmfenpniaaGreatDoor
