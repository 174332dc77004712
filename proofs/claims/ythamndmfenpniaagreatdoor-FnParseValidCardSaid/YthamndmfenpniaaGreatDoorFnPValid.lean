/- The law FnParseValid: its walk. -/
import Derived.Test.YthamndmfenpniaaGreatDoorPProg
import Derived.Test.YthamndmfenpniaaGreatDoorDrawParse
import Derived.Test.YthamndmfenpniaaGreatDoorBaseE
import Derived.Test.YthamndmfenpniaaGreatDoorShortL
import Derived.Lib.QuietBelow
import Derived.BigQuiet
import Derived.IntWalk
namespace Go.Proofs.YthamndmfenpniaaGreatDoor
open Go.RowKit Go.Sort

set_option maxRecDepth 100000 in
set_option maxHeartbeats 8000000 in
theorem fnParseValidLaw (a : Option Addr) (n c : Nat) (bs : List Int) (w : World) (hLd : Laid2 w) (hl : bs.length = n) (h1 : Rd w a (bytesV bs)) (hmx : n ≤ maxLen) (hcap : n ≤ c) (hby : ∀ b ∈ bs, 0 ≤ b ∧ b ≤ 255) :
    Calls Tryz.prog 3 #[.slice a n c] w fun e w' => e = .returned (.bool true) ∧ Below w.heap.size w w' := by
  unfold maxLen at hmx
  have HL := Lib.hid hl
  have HBY := Lib.hid hby
  clear hl hby
  by_cases hn : n ≤ 1048576
  · have hC := Lib.hid (Code13.mk HL.out h1 hcap HBY.out hn)
    have HLD := Lib.hid hLd
    clear HL HBY h1 hLd
    go_enter Tryz.func3, Tryz.ntmps3
    go_wp2_with fail
    refine (drawParseProg_any a n c bs w hC.out).mono ?_
    rintro e w1 ⟨s, rfl, hs, hb⟩
    have HB := Lib.hid hb
    clear hC
    replace HLD := Lib.hid (HLD.out.below hb)
    clear hb
    have HS : Hid (s.size ≤ 1048576 ∧ s.size ≤ 4294967296) := Lib.hid ⟨by omega, by omega⟩
    clear hs
    go_wp2_with fail
    refine (implParseProg_any s _ HLD.out HS.out.1).mono ?_
    rintro e w2 ⟨u, us, rfl, ou, nd, fr, su, hb⟩
    have HU := Lib.hid ou.rd
    have HZU := Lib.hid su
    clear ou nd fr su
    replace HLD := Lib.hid (HLD.out.below hb)
    replace HB := Lib.hid (HB.out.trans (hb.mono HB.out.size))
    clear hb
    have bb : Below w2.heap.size w2 (w2.alloc (.cells #[.slice u.s u.ns u.cs, .slice u.g u.ng u.cg, .slice u.b u.nb u.cb, .slice u.r u.nr u.cr, .slice u.t u.nt u.ct] 27)) := (Below.refl _ _).alloc (Nat.le_refl _) _
    have ku : Blk (w2.alloc (.cells #[.slice u.s u.ns u.cs, .slice u.g u.ng u.cg, .slice u.b u.nb u.cb, .slice u.r u.nr u.cr, .slice u.t u.nt u.ct] 27)) w2.heap.size #[.slice u.s u.ns u.cs, .slice u.g u.ng u.cg, .slice u.b u.nb u.cb, .slice u.r u.nr u.cr, .slice u.t u.nt u.ct] 27 := Blk.new _ _ _
    replace HLD := Lib.hid (HLD.out.below bb)
    replace HU := Lib.hid (HU.out.below bb)
    replace HB := Lib.hid (HB.out.trans (bb.mono HB.out.size))
    clear bb
    have cku0 := ku.cell 0 rfl
    have cku1 := ku.cell 1 rfl
    have cku2 := ku.cell 2 rfl
    have cku3 := ku.cell 3 rfl
    have cku4 := ku.cell 4 rfl
    go_wp2_with fail
    refine (specParseProg_any s _ HS.out.2).mono ?_
    rintro e w3 ⟨t, ts, rfl, ot, fr, st, hb⟩
    have HT := Lib.hid ot.rd
    clear ot fr st
    replace HLD := Lib.hid (HLD.out.below hb)
    replace HU := Lib.hid (HU.out.below hb)
    replace ku := ku.below hb
    replace HB := Lib.hid (HB.out.trans (hb.mono HB.out.size))
    clear hb
    clear cku0 cku1 cku2 cku3 cku4
    have bb : Below w3.heap.size w3 (w3.alloc (.cells #[.slice t.s t.ns t.cs, .slice t.g t.ng t.cg, .slice t.b t.nb t.cb, .slice t.r t.nr t.cr, .slice t.t t.nt t.ct] 27)) := (Below.refl _ _).alloc (Nat.le_refl _) _
    have kt : Blk (w3.alloc (.cells #[.slice t.s t.ns t.cs, .slice t.g t.ng t.cg, .slice t.b t.nb t.cb, .slice t.r t.nr t.cr, .slice t.t t.nt t.ct] 27)) w3.heap.size #[.slice t.s t.ns t.cs, .slice t.g t.ng t.cg, .slice t.b t.nb t.cb, .slice t.r t.nr t.cr, .slice t.t t.nt t.ct] 27 := Blk.new _ _ _
    replace HLD := Lib.hid (HLD.out.below bb)
    replace HU := Lib.hid (HU.out.below bb)
    replace HT := Lib.hid (HT.out.below bb)
    replace ku := ku.below bb
    replace HB := Lib.hid (HB.out.trans (bb.mono HB.out.size))
    clear bb
    cases hq : parseProg s with
    | none =>
      rw [hq] at HU HT HZU
      simp only [Option.isSome_none, Option.getD_none] at HU HT HZU ⊢
      clear hq
      have t1 : decide (zeroPg = zeroPg) = true := by simp
      have cku0 := ku.cell 0 rfl
      have cku1 := ku.cell 1 rfl
      have cku2 := ku.cell 2 rfl
      have cku3 := ku.cell 3 rfl
      have cku4 := ku.cell 4 rfl
      have ckt0 := kt.cell 0 rfl
      have ckt1 := kt.cell 1 rfl
      have ckt2 := kt.cell 2 rfl
      have ckt3 := kt.cell 3 rfl
      have ckt4 := kt.cell 4 rfl
      go_wp2_with fail
      refine (implProgSame_any u t zeroPg zeroPg _ HU.out HT.out HZU.out).mono ?_
      rintro e w4 ⟨rfl, hb⟩
      replace HLD := Lib.hid (HLD.out.below hb)
      replace HU := Lib.hid (HU.out.below hb)
      replace HT := Lib.hid (HT.out.below hb)
      replace ku := ku.below hb
      replace kt := kt.below hb
      replace HB := Lib.hid (HB.out.trans (hb.mono HB.out.size))
      clear hb
      clear cku0 cku1 cku2 cku3 cku4 ckt0 ckt1 ckt2 ckt3 ckt4
      have cku0 := ku.cell 0 rfl
      have cku1 := ku.cell 1 rfl
      have cku2 := ku.cell 2 rfl
      have cku3 := ku.cell 3 rfl
      have cku4 := ku.cell 4 rfl
      have ckt0 := kt.cell 0 rfl
      have ckt1 := kt.cell 1 rfl
      have ckt2 := kt.cell 2 rfl
      have ckt3 := kt.cell 3 rfl
      have ckt4 := kt.cell 4 rfl
      go_wp2_with fail
      refine (implProgSame_any u t zeroPg zeroPg _ HU.out HT.out HZU.out).mono ?_
      rintro e w5 ⟨rfl, hb⟩
      replace HLD := Lib.hid (HLD.out.below hb)
      replace HU := Lib.hid (HU.out.below hb)
      replace HT := Lib.hid (HT.out.below hb)
      replace ku := ku.below hb
      replace kt := kt.below hb
      replace HB := Lib.hid (HB.out.trans (hb.mono HB.out.size))
      clear hb
      clear cku0 cku1 cku2 cku3 cku4 ckt0 ckt1 ckt2 ckt3 ckt4
      go_wp2
      go_ret
      exact ⟨rfl, HB.out⟩
    | some p =>
      have HV : Hid (progValid p = true) := Lib.hid (parse_iff.1 hq).1
      have hsh := parse_short hq
      have HSH : Hid (parseProg (s.extract 0 (s.size - 1)) = none) := Lib.hid hsh.2
      have h1s := hsh.1
      have HSE : Hid ((s.extract 0 (s.size - 1)).size ≤ 1048576) := Lib.hid (by have := HS.out.1; rw [ByteArray.size_extract]; omega)
      rw [hq] at HU HT HZU
      simp only [Option.isSome_some, Option.getD_some] at HU HT HZU ⊢
      clear hq hsh
      have t1 : decide (p = p) = true := by simp
      have cku0 := ku.cell 0 rfl
      have cku1 := ku.cell 1 rfl
      have cku2 := ku.cell 2 rfl
      have cku3 := ku.cell 3 rfl
      have cku4 := ku.cell 4 rfl
      have ckt0 := kt.cell 0 rfl
      have ckt1 := kt.cell 1 rfl
      have ckt2 := kt.cell 2 rfl
      have ckt3 := kt.cell 3 rfl
      have ckt4 := kt.cell 4 rfl
      go_wp2_with fail
      refine (implProgSame_any u t p p _ HU.out HT.out HZU.out).mono ?_
      rintro e w4 ⟨rfl, hb⟩
      have i1 : (1 : Int) ≤ (s.size : Int) := by omega
      have i2 : (0 : Int) ≤ (s.size : Int) - 1 := by omega
      have i3 : (s.size : Int) - 1 ≤ (s.size : Int) := by omega
      obtain ⟨s', hs'⟩ : ∃ s', s' = s.extract 0 (s.size - 1) := ⟨_, rfl⟩
      rw [← hs'] at HSH HSE
      have hwr : IntKind.i64.wrap ((s.size : Int) - 1) = (s.size : Int) - 1 := Go.IntWalk.i64_in _ (by have := HS.out.1; omega)
      have hsl : ∀ W : World, (Instr.slice 9 (.string s) none (some (.int .i64 ((s.size : Int) - 1))) none).run Tryz.prog W = .ok (.string s') W := fun W => by
        rw [hs']
        have e9 : ((s.size : Int) - 1).toNat = s.size - 1 := by omega
        go_simp
      clear hs'
      replace HLD := Lib.hid (HLD.out.below hb)
      replace HU := Lib.hid (HU.out.below hb)
      replace HT := Lib.hid (HT.out.below hb)
      replace ku := ku.below hb
      replace kt := kt.below hb
      replace HB := Lib.hid (HB.out.trans (hb.mono HB.out.size))
      clear hb
      clear cku0 cku1 cku2 cku3 cku4 ckt0 ckt1 ckt2 ckt3 ckt4
      have cku0 := ku.cell 0 rfl
      have cku1 := ku.cell 1 rfl
      have cku2 := ku.cell 2 rfl
      have cku3 := ku.cell 3 rfl
      have cku4 := ku.cell 4 rfl
      have ckt0 := kt.cell 0 rfl
      have ckt1 := kt.cell 1 rfl
      have ckt2 := kt.cell 2 rfl
      have ckt3 := kt.cell 3 rfl
      have ckt4 := kt.cell 4 rfl
      go_wp2_with fail
      refine (implParseProg_any s' _ HLD.out HSE.out).mono ?_
      rintro e w5 ⟨x, xs, rfl, ox, nd, fr, sx, hb⟩
      rw [HSH.out]
      simp only [Option.isSome_none]
      clear ox nd fr sx
      replace HLD := Lib.hid (HLD.out.below hb)
      replace HU := Lib.hid (HU.out.below hb)
      replace HT := Lib.hid (HT.out.below hb)
      replace ku := ku.below hb
      replace kt := kt.below hb
      replace HB := Lib.hid (HB.out.trans (hb.mono HB.out.size))
      clear hb
      clear cku0 cku1 cku2 cku3 cku4 ckt0 ckt1 ckt2 ckt3 ckt4
      have bb : Below w5.heap.size w5 (w5.alloc (.cells #[.slice x.s x.ns x.cs, .slice x.g x.ng x.cg, .slice x.b x.nb x.cb, .slice x.r x.nr x.cr, .slice x.t x.nt x.ct] 27)) := (Below.refl _ _).alloc (Nat.le_refl _) _
      have kx : Blk (w5.alloc (.cells #[.slice x.s x.ns x.cs, .slice x.g x.ng x.cg, .slice x.b x.nb x.cb, .slice x.r x.nr x.cr, .slice x.t x.nt x.ct] 27)) w5.heap.size #[.slice x.s x.ns x.cs, .slice x.g x.ng x.cg, .slice x.b x.nb x.cb, .slice x.r x.nr x.cr, .slice x.t x.nt x.ct] 27 := Blk.new _ _ _
      replace HLD := Lib.hid (HLD.out.below bb)
      replace HU := Lib.hid (HU.out.below bb)
      replace HT := Lib.hid (HT.out.below bb)
      replace ku := ku.below bb
      replace kt := kt.below bb
      replace HB := Lib.hid (HB.out.trans (bb.mono HB.out.size))
      clear bb
      have cku0 := ku.cell 0 rfl
      have cku1 := ku.cell 1 rfl
      have cku2 := ku.cell 2 rfl
      have cku3 := ku.cell 3 rfl
      have cku4 := ku.cell 4 rfl
      have ckt0 := kt.cell 0 rfl
      have ckt1 := kt.cell 1 rfl
      have ckt2 := kt.cell 2 rfl
      have ckt3 := kt.cell 3 rfl
      have ckt4 := kt.cell 4 rfl
      have ckx0 := kx.cell 0 rfl
      have ckx1 := kx.cell 1 rfl
      have ckx2 := kx.cell 2 rfl
      have ckx3 := kx.cell 3 rfl
      have ckx4 := kx.cell 4 rfl
      go_wp2_with fail
      refine (implProgValid_any u p _ HU.out HZU.out).mono ?_
      rintro e w6 ⟨rfl, hb⟩
      rw [HV.out]
      replace HLD := Lib.hid (HLD.out.below hb)
      replace HU := Lib.hid (HU.out.below hb)
      replace HT := Lib.hid (HT.out.below hb)
      replace ku := ku.below hb
      replace kt := kt.below hb
      replace kx := kx.below hb
      replace HB := Lib.hid (HB.out.trans (hb.mono HB.out.size))
      clear hb
      clear cku0 cku1 cku2 cku3 cku4 ckt0 ckt1 ckt2 ckt3 ckt4 ckx0 ckx1 ckx2 ckx3 ckx4
      go_wp2
      go_ret
      exact ⟨rfl, HB.out⟩
  · go_enter Tryz.func3, Tryz.ntmps3
    go_wp2
    go_ret
    exact ⟨rfl, Below.refl _ _⟩

end Go.Proofs.YthamndmfenpniaaGreatDoor
