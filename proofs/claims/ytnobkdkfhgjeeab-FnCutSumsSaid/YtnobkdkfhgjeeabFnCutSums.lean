/- The law FnCutSums: its walk. -/
import Derived.Test.YtnobkdkfhgjeeabSumsPlain
import Derived.Test.YtnobkdkfhgjeeabCutSpec
import Derived.Test.YtnobkdkfhgjeeabBalImpl
import Derived.Lib.QuietBelow
import Derived.BigQuiet
import Derived.IntWalk
namespace Go.Proofs.Ytnobkdkfhgjeeab
open Go.RowKit Go.Sort

set_option maxRecDepth 100000 in
set_option maxHeartbeats 8000000 in
theorem fnCutSumsLaw (a : Option Addr) (n c : Nat) (bs : List Int) (w : World) (hl : bs.length = n) (h1 : Rd w a (bytesV bs)) (hmx : n ≤ maxLen) (hcap : n ≤ c) (hby : ∀ b ∈ bs, 0 ≤ b ∧ b ≤ 255) :
    Calls Try.prog 5 #[.slice a n c] w fun e w' => e = .returned (.bool true) ∧ Below w.heap.size w w' := by
  unfold maxLen at hmx
  have HL := Lib.hid hl
  have HBY := Lib.hid hby
  clear hl hby
  by_cases hn : n ≤ 1048576
  · have hC := Lib.hid (Code13.mk HL.out h1 hcap HBY.out hn)
    clear HL HBY h1
    go_enter Try.func5, Try.ntmps5
    go_wp2_with fail
    refine (drawCutThread_any a n c bs w hC.out).mono ?_
    rintro e w1 ⟨v, vs, p, x, rfl, hx, o1, hb⟩
    have HB := Lib.hid hb
    have HR := Lib.hid o1.own.rd
    have HF := Lib.hid o1.few
    have HZ := Lib.hid (o1.small (by omega))
    clear hb o1 hC
    have bb : Below w1.heap.size w1 (w1.alloc (.cells #[.slice v.s v.ns v.cs, .slice v.g v.ng v.cg, .slice v.b v.nb v.cb, .slice v.r v.nr v.cr, .slice v.t v.nt v.ct] 26)) := (Below.refl _ _).alloc (Nat.le_refl _) _
    have kp : Blk (w1.alloc (.cells #[.slice v.s v.ns v.cs, .slice v.g v.ng v.cg, .slice v.b v.nb v.cb, .slice v.r v.nr v.cr, .slice v.t v.nt v.ct] 26)) w1.heap.size #[.slice v.s v.ns v.cs, .slice v.g v.ng v.cg, .slice v.b v.nb v.cb, .slice v.r v.nr v.cr, .slice v.t v.nt v.ct] 26 := Blk.new _ _ _
    replace HR := Lib.hid (HR.out.below bb)
    replace HB := Lib.hid (HB.out.trans (bb.mono HB.out.size))
    clear bb
    have ckp0 := kp.cell 0 rfl
    have ckp1 := kp.cell 1 rfl
    have ckp2 := kp.cell 2 rfl
    have ckp3 := kp.cell 3 rfl
    have ckp4 := kp.cell 4 rfl
    go_wp2_with fail
    refine (implCutThread_any v p x _ HR.out HZ.out).mono ?_
    rintro e w2 ⟨u, us, rfl, o2, nd2, fr2, hb⟩
    have HU := Lib.hid o2.rd
    clear o2 nd2 fr2
    replace HR := Lib.hid (HR.out.below hb)
    replace kp := kp.below hb
    replace HB := Lib.hid (HB.out.trans (hb.mono HB.out.size))
    clear hb
    clear ckp0 ckp1 ckp2 ckp3 ckp4
    have bb : Below w2.heap.size w2 (w2.alloc (.cells #[.slice u.s u.ns u.cs, .slice u.g u.ng u.cg, .slice u.b u.nb u.cb, .slice u.r u.nr u.cr, .slice u.t u.nt u.ct] 26)) := (Below.refl _ _).alloc (Nat.le_refl _) _
    have ku : Blk (w2.alloc (.cells #[.slice u.s u.ns u.cs, .slice u.g u.ng u.cg, .slice u.b u.nb u.cb, .slice u.r u.nr u.cr, .slice u.t u.nt u.ct] 26)) w2.heap.size #[.slice u.s u.ns u.cs, .slice u.g u.ng u.cg, .slice u.b u.nb u.cb, .slice u.r u.nr u.cr, .slice u.t u.nt u.ct] 26 := Blk.new _ _ _
    replace HR := Lib.hid (HR.out.below bb)
    replace HU := Lib.hid (HU.out.below bb)
    replace kp := kp.below bb
    replace HB := Lib.hid (HB.out.trans (bb.mono HB.out.size))
    clear bb
    have ckp0 := kp.cell 0 rfl
    have ckp1 := kp.cell 1 rfl
    have ckp2 := kp.cell 2 rfl
    have ckp3 := kp.cell 3 rfl
    have ckp4 := kp.cell 4 rfl
    have cku0 := ku.cell 0 rfl
    have cku1 := ku.cell 1 rfl
    have cku2 := ku.cell 2 rfl
    have cku3 := ku.cell 3 rfl
    have cku4 := ku.cell 4 rfl
    go_wp2_with fail
    refine (specCutThread_any v p x _ HR.out HZ.out).mono ?_
    rintro e w3 ⟨t, rfl, r3, hb⟩
    have HT := Lib.hid r3
    clear r3
    replace HR := Lib.hid (HR.out.below hb)
    replace HU := Lib.hid (HU.out.below hb)
    replace kp := kp.below hb
    replace ku := ku.below hb
    replace HB := Lib.hid (HB.out.trans (hb.mono HB.out.size))
    clear hb
    clear ckp0 ckp1 ckp2 ckp3 ckp4 cku0 cku1 cku2 cku3 cku4
    have bb : Below w3.heap.size w3 (w3.alloc (.cells #[.slice t.s t.ns t.cs, .slice t.g t.ng t.cg, .slice t.b t.nb t.cb, .slice t.r t.nr t.cr, .slice t.t t.nt t.ct] 26)) := (Below.refl _ _).alloc (Nat.le_refl _) _
    have kt : Blk (w3.alloc (.cells #[.slice t.s t.ns t.cs, .slice t.g t.ng t.cg, .slice t.b t.nb t.cb, .slice t.r t.nr t.cr, .slice t.t t.nt t.ct] 26)) w3.heap.size #[.slice t.s t.ns t.cs, .slice t.g t.ng t.cg, .slice t.b t.nb t.cb, .slice t.r t.nr t.cr, .slice t.t t.nt t.ct] 26 := Blk.new _ _ _
    replace HR := Lib.hid (HR.out.below bb)
    replace HU := Lib.hid (HU.out.below bb)
    replace HT := Lib.hid (HT.out.below bb)
    replace kp := kp.below bb
    replace ku := ku.below bb
    replace HB := Lib.hid (HB.out.trans (bb.mono HB.out.size))
    clear bb
    cases hq : cutThread p x with
    | none =>
      rw [hq] at HU HT
      simp only [Option.isSome_none, Option.getD_none] at HU HT ⊢
      clear hq
      have HZU := Lib.hid ((few_noPg 10).small' HU.out (by omega))
      have t1 : decide (noPg = noPg) = true := by simp
      have ckp0 := kp.cell 0 rfl
      have ckp1 := kp.cell 1 rfl
      have ckp2 := kp.cell 2 rfl
      have ckp3 := kp.cell 3 rfl
      have ckp4 := kp.cell 4 rfl
      have cku0 := ku.cell 0 rfl
      have cku1 := ku.cell 1 rfl
      have cku2 := ku.cell 2 rfl
      have cku3 := ku.cell 3 rfl
      have cku4 := ku.cell 4 rfl
      have ckt0 := kt.cell 0 rfl
      have ckt1 := kt.cell 1 rfl
      have ckt2 := kt.cell 2 rfl
      have ckt3 := kt.cell 3 rfl
      have ckt4 := kt.cell 4 rfl
      go_wp2_with fail
      refine (implProgSame_any u t noPg noPg _ HU.out HT.out HZU.out).mono ?_
      rintro e w4 ⟨rfl, hb⟩
      replace HR := Lib.hid (HR.out.below hb)
      replace HU := Lib.hid (HU.out.below hb)
      replace HT := Lib.hid (HT.out.below hb)
      replace kp := kp.below hb
      replace ku := ku.below hb
      replace kt := kt.below hb
      replace HB := Lib.hid (HB.out.trans (hb.mono HB.out.size))
      clear hb
      clear ckp0 ckp1 ckp2 ckp3 ckp4 cku0 cku1 cku2 cku3 cku4 ckt0 ckt1 ckt2 ckt3 ckt4
      have ckp0 := kp.cell 0 rfl
      have ckp1 := kp.cell 1 rfl
      have ckp2 := kp.cell 2 rfl
      have ckp3 := kp.cell 3 rfl
      have ckp4 := kp.cell 4 rfl
      have cku0 := ku.cell 0 rfl
      have cku1 := ku.cell 1 rfl
      have cku2 := ku.cell 2 rfl
      have cku3 := ku.cell 3 rfl
      have cku4 := ku.cell 4 rfl
      have ckt0 := kt.cell 0 rfl
      have ckt1 := kt.cell 1 rfl
      have ckt2 := kt.cell 2 rfl
      have ckt3 := kt.cell 3 rfl
      have ckt4 := kt.cell 4 rfl
      go_wp2_with fail
      refine (implProgSame_any u t noPg noPg _ HU.out HT.out HZU.out).mono ?_
      rintro e w5 ⟨rfl, hb⟩
      replace HR := Lib.hid (HR.out.below hb)
      replace HU := Lib.hid (HU.out.below hb)
      replace HT := Lib.hid (HT.out.below hb)
      replace kp := kp.below hb
      replace ku := ku.below hb
      replace kt := kt.below hb
      replace HB := Lib.hid (HB.out.trans (hb.mono HB.out.size))
      clear hb
      clear ckp0 ckp1 ckp2 ckp3 ckp4 cku0 cku1 cku2 cku3 cku4 ckt0 ckt1 ckt2 ckt3 ckt4
      go_wp2
      go_ret
      exact ⟨rfl, HB.out⟩
    | some q =>
      rw [hq] at HU HT
      simp only [Option.isSome_some, Option.getD_some] at HU HT ⊢
      obtain ⟨hvp, hvq, τ, rfl, hτ, h2, eq⟩ := cutThread_some hq
      clear hq hx
      have HZU := Lib.hid ((few_thr (k := 10) HF.out (ts := p.threads.eraseIdx τ) (by have := HF.out.t; rw [List.length_eraseIdx]; split <;> omega) (fun t ht => HF.out.i t (mem_erase ht))).small' (by rw [← eq]; exact HU.out) (by omega))
      rw [← eq] at HZU
      obtain ⟨N, hN⟩ : ∃ N, p.barriers.length = N := ⟨_, rfl⟩
      have HN := Lib.hid hN
      have hN1 : (arrivalsOf p).length = N := by rw [arr_len hvp, hN]
      have hN2 : (arrivalsOf q).length = N := by rw [arr_len hvq, eq]; exact hN
      have hNs : N ≤ 10 := by rw [← hN]; exact HF.out.b
      have HN1 := Lib.hid hN1
      have HN2 := Lib.hid hN2
      have HCUT : Hid (∀ i, i < N → (arrivalsOf p).getD i 0 = (arrivalsOf q).getD i 0 + sumAt ofArrivalsOf i (p.threads.getD τ []) ∧ 0 ≤ (arrivalsOf q).getD i 0 ∧ (arrivalsOf q).getD i 0 ≤ 32) := Lib.hid (fun i hi => arr_cut hvp hvq hτ eq i (by omega))
      have HBC : Hid (isBalanced p = true → isBalanced q = true) := Lib.hid (fun h => bal_cut hvq eq h)
      have h8 : (p.threads.getD τ []).length ≤ 8 := (valid_thr hvp).2 _ (getD_mem_of [] p.threads τ hτ)
      clear eq hN hN1 hN2 hvp hvq
      have t1 : decide (q = q) = true := by simp
      have ckp0 := kp.cell 0 rfl
      have ckp1 := kp.cell 1 rfl
      have ckp2 := kp.cell 2 rfl
      have ckp3 := kp.cell 3 rfl
      have ckp4 := kp.cell 4 rfl
      have cku0 := ku.cell 0 rfl
      have cku1 := ku.cell 1 rfl
      have cku2 := ku.cell 2 rfl
      have cku3 := ku.cell 3 rfl
      have cku4 := ku.cell 4 rfl
      have ckt0 := kt.cell 0 rfl
      have ckt1 := kt.cell 1 rfl
      have ckt2 := kt.cell 2 rfl
      have ckt3 := kt.cell 3 rfl
      have ckt4 := kt.cell 4 rfl
      go_wp2_with fail
      refine (implProgSame_any u t q q _ HU.out HT.out HZU.out).mono ?_
      rintro e w4 ⟨rfl, hb⟩
      rw [decide_eq_true (rfl : q = q)]
      replace HR := Lib.hid (HR.out.below hb)
      replace HU := Lib.hid (HU.out.below hb)
      replace HT := Lib.hid (HT.out.below hb)
      replace kp := kp.below hb
      replace ku := ku.below hb
      replace kt := kt.below hb
      replace HB := Lib.hid (HB.out.trans (hb.mono HB.out.size))
      clear hb
      clear ckp0 ckp1 ckp2 ckp3 ckp4 cku0 cku1 cku2 cku3 cku4 ckt0 ckt1 ckt2 ckt3 ckt4
      clear t1
      have ckp0 := kp.cell 0 rfl
      have ckp1 := kp.cell 1 rfl
      have ckp2 := kp.cell 2 rfl
      have ckp3 := kp.cell 3 rfl
      have ckp4 := kp.cell 4 rfl
      have cku0 := ku.cell 0 rfl
      have cku1 := ku.cell 1 rfl
      have cku2 := ku.cell 2 rfl
      have cku3 := ku.cell 3 rfl
      have cku4 := ku.cell 4 rfl
      have ckt0 := kt.cell 0 rfl
      have ckt1 := kt.cell 1 rfl
      have ckt2 := kt.cell 2 rfl
      have ckt3 := kt.cell 3 rfl
      have ckt4 := kt.cell 4 rfl
      go_wp2_with fail
      refine (implArrivalsOf_any N v p _ HN1.out HR.out HZ.out).mono ?_
      rintro e w5 ⟨a1, c1, rfl, ol, hb⟩
      have HL1 := Lib.hid (Rd.of_owns ol)
      clear ol
      replace HR := Lib.hid (HR.out.below hb)
      replace HU := Lib.hid (HU.out.below hb)
      replace HT := Lib.hid (HT.out.below hb)
      replace kp := kp.below hb
      replace ku := ku.below hb
      replace kt := kt.below hb
      replace HB := Lib.hid (HB.out.trans (hb.mono HB.out.size))
      clear hb
      clear ckp0 ckp1 ckp2 ckp3 ckp4 cku0 cku1 cku2 cku3 cku4 ckt0 ckt1 ckt2 ckt3 ckt4
      have ckp0 := kp.cell 0 rfl
      have ckp1 := kp.cell 1 rfl
      have ckp2 := kp.cell 2 rfl
      have ckp3 := kp.cell 3 rfl
      have ckp4 := kp.cell 4 rfl
      have cku0 := ku.cell 0 rfl
      have cku1 := ku.cell 1 rfl
      have cku2 := ku.cell 2 rfl
      have cku3 := ku.cell 3 rfl
      have cku4 := ku.cell 4 rfl
      have ckt0 := kt.cell 0 rfl
      have ckt1 := kt.cell 1 rfl
      have ckt2 := kt.cell 2 rfl
      have ckt3 := kt.cell 3 rfl
      have ckt4 := kt.cell 4 rfl
      go_wp2_with fail
      refine (implArrivalsOf_any N u q _ HN2.out HU.out HZU.out).mono ?_
      rintro e w6 ⟨a2, c2, rfl, ol, hb⟩
      have HL2 := Lib.hid (Rd.of_owns ol)
      clear ol
      replace HR := Lib.hid (HR.out.below hb)
      replace HU := Lib.hid (HU.out.below hb)
      replace HT := Lib.hid (HT.out.below hb)
      replace HL1 := Lib.hid (HL1.out.below hb)
      replace kp := kp.below hb
      replace ku := ku.below hb
      replace kt := kt.below hb
      replace HB := Lib.hid (HB.out.trans (hb.mono HB.out.size))
      clear hb
      clear ckp0 ckp1 ckp2 ckp3 ckp4 cku0 cku1 cku2 cku3 cku4 ckt0 ckt1 ckt2 ckt3 ckt4
      have HLT := Lib.hid HR.out.lt
      obtain ⟨b, o, ev, ec⟩ := HR.out.thr (by omega)
      obtain ⟨a', c', ec, er⟩ := ec τ hτ
      have HEV := Lib.hid ev
      have HEC := Lib.hid ec
      obtain ⟨row, hrow⟩ : ∃ row, row = p.threads.getD τ [] := ⟨_, rfl⟩
      rw [← hrow] at ec er h8 HCUT HEC
      obtain ⟨m, hm⟩ : ∃ m, row.length = m := ⟨_, rfl⟩
      rw [hm] at h8 HEC
      have HM := Lib.hid hm
      have HER := Lib.hid er
      have hτv : (τ : Int) < (v.nt : Int) := by have := HLT.out; omega
      have τ0 : (0 : Int) ≤ (τ : Int) := by omega
      have HKP := Lib.hid kp
      have HKU := Lib.hid ku
      clear ev ec er hrow hm kp ku kt h2 hτ
      go_wp2_with fail
      go_loopw [11] (fun v11 wr => ∃ i : Nat, i ≤ N ∧ v11 = .int .i64 i ∧ Hid (Below w6.heap.size w6 wr)) (fun v11 _ => N - (intOf v11).toNat)
      case atStart => exact ⟨0, Nat.zero_le _, rfl, Lib.hid (Below.refl _ _)⟩
      case round =>
        obtain ⟨wo, rfl⟩ : ∃ y, y = wr := ⟨_, rfl⟩
        obtain ⟨i, hi, rfl, HW⟩ := hrel
        by_cases hlt : i < N
        · go_wp2_with fail
          go_loopw [12, 13] (fun v12 v13 wi => ∃ k : Nat, k ≤ m ∧ v13 = .int .i64 k ∧ v12 = .int .i64 (sumAt ofArrivalsOf i (row.take k)) ∧ Hid (Below w6.heap.size w6 wi)) (fun _ v13 _ => m - (intOf v13).toNat)
          case atStart => exact ⟨0, Nat.zero_le _, rfl, by simp [sumAt], HW⟩
          case round =>
            obtain ⟨wi, rfl⟩ : ∃ y, y = wr := ⟨_, rfl⟩
            obtain ⟨k, hk, rfl, rfl, HV⟩ := hrel
            have kpi := HKP.out.below HV.out
            have c4 := kpi.cell 4 rfl
            have ec := keepc HV.out HEC.out
            rw [HEV.out] at c4
            have hs := arr_at i (row.take k)
            have hs8 : ((row.take k).length : Int) ≤ 8 := by have := List.length_take_le k row; have := HM.out; omega
            obtain ⟨S, hS⟩ : ∃ S, S = sumAt ofArrivalsOf i (row.take k) := ⟨_, rfl⟩
            rw [← hS] at hs ⊢
            have hs1 : 0 ≤ S := hs.1
            have hs2 : S ≤ 8 := by omega
            have HSS := Lib.hid hS
            clear hs hs8 hS kpi
            by_cases hkm : k < m
            · obtain ⟨b2, o2, ea, eo⟩ := HER.out.op (by have := HM.out; omega)
              obtain ⟨eo0, eo1, eo2⟩ := eo k (by have := HM.out; omega)
              have hst := arr_step (i := i) row k (by have := HM.out; omega)
              obtain ⟨od, hod⟩ : ∃ od, od = row.getD k noOp := ⟨_, rfl⟩
              rw [← hod] at eo0 eo1 eo2 hst
              rw [← HSS.out] at hst
              rw [ea] at ec
              replace eo0 := keepc HV.out eo0
              replace eo1 := keepc HV.out eo1
              replace eo2 := keepc HV.out eo2
              have HST := Lib.hid hst
              have HV2 := fun (W : World) (hb : Below wi.heap.size wi W) => Lib.hid (HV.out.trans (hb.mono HV.out.size))
              have HV3 := Lib.hid HV2
              clear hod hst eo ea HV2
              by_cases h7 : od.kind = 7
              · have t7 : (od.kind == 7) = true := by simpa using h7
                by_cases hon : od.on = i
                · have t8 : (od.on == (i : Int)) = true := by simpa using hon
                  have HC : Hid (od.kind = 7 ∧ od.on = i) := Lib.hid ⟨h7, hon⟩
                  clear h7 hon
                  go_wp2
                  go_roundw
                  case rel => exact ⟨k + 1, by omega, by go_num, by rw [HST.out, if_pos HC.out], HV3.out _ ((Below.refl _ _).alloc (Nat.le_refl _) _)⟩
                  case measure => simp [intOf]; omega
                · have t8 : (od.on == (i : Int)) = false := by simpa using hon
                  have HC : Hid (¬ (od.kind = 7 ∧ od.on = i)) := Lib.hid (fun h => hon h.2)
                  clear h7 hon
                  go_wp2
                  go_roundw
                  case rel => exact ⟨k + 1, by omega, by go_num, by rw [HST.out, if_neg HC.out]; simp, HV3.out _ ((Below.refl _ _).alloc (Nat.le_refl _) _)⟩
                  case measure => simp [intOf]; omega
              · have t7 : (od.kind == 7) = false := by simpa using h7
                have HC : Hid (¬ (od.kind = 7 ∧ od.on = i)) := Lib.hid (fun h => h7 h.1)
                clear h7
                go_wp2
                go_roundw
                case rel => exact ⟨k + 1, by omega, by go_num, by rw [HST.out, if_neg HC.out]; simp, HV3.out _ ((Below.refl _ _).alloc (Nat.le_refl _) _)⟩
                case measure => simp [intOf]; omega
            · obtain rfl : k = m := by omega
              have hcut := HCUT.out i hlt
              have htk : row.take k = row := by rw [← HM.out, List.take_length]
              rw [← htk, ← HSS.out] at hcut
              obtain ⟨b1, p1, e1, g1⟩ := (HL1.out.below HV.out).int (by have := HN1.out; omega)
              obtain ⟨b3, p3, e3, g3⟩ := (HL2.out.below HV.out).int (by have := HN2.out; omega)
              have g1 := g1 i (by have := HN1.out; omega)
              have g3 := g3 i (by have := HN2.out; omega)
              obtain ⟨x1, hx1⟩ : ∃ x1, x1 = (arrivalsOf p).getD i 0 := ⟨_, rfl⟩
              obtain ⟨x3, hx3⟩ : ∃ x3, x3 = (arrivalsOf q).getD i 0 := ⟨_, rfl⟩
              rw [← hx1] at g1 hcut
              rw [← hx3] at g3 hcut
              have i0 : (0 : Int) ≤ (i : Int) := by omega
              have iN : (i : Int) < (N : Int) := by omega
              have w1' : IntKind.i64.wrap (x3 + S) = x3 + S := IntWalk.i64_in _ (by omega)
              have ne1 : (x1 != x3 + S) = false := by simp; omega
              clear hx1 hx3 hcut htk
              subst e1 e3
              go_wp2
              go_quiet (fail)
              go_wp2
              refine ⟨⟨i + 1, by omega, by go_num, Lib.hid (HV.out.trans (below_drewN (Below.refl _ _) nq |>.mono HV.out.size))⟩, by simp [intOf]; omega⟩
        · obtain rfl : i = N := by omega
          have kp := HKP.out.below HW.out
          have ku := HKU.out.below HW.out
          replace HR := Lib.hid (HR.out.below HW.out)
          replace HU := Lib.hid (HU.out.below HW.out)
          replace HB := Lib.hid (HB.out.trans (HW.out.mono HB.out.size))
          clear HKP HKU HW HL1 HL2 HT HER HEC
          have ckp0 := kp.cell 0 rfl
          have ckp1 := kp.cell 1 rfl
          have ckp2 := kp.cell 2 rfl
          have ckp3 := kp.cell 3 rfl
          have ckp4 := kp.cell 4 rfl
          have cku0 := ku.cell 0 rfl
          have cku1 := ku.cell 1 rfl
          have cku2 := ku.cell 2 rfl
          have cku3 := ku.cell 3 rfl
          have cku4 := ku.cell 4 rfl
          go_wp2_with fail
          refine (implIsBalanced_any v p _ HR.out HZ.out).mono ?_
          rintro e w7 ⟨rfl, hb⟩
          replace HR := Lib.hid (HR.out.below hb)
          replace HU := Lib.hid (HU.out.below hb)
          replace kp := kp.below hb
          replace ku := ku.below hb
          replace HB := Lib.hid (HB.out.trans (hb.mono HB.out.size))
          clear hb
          clear ckp0 ckp1 ckp2 ckp3 ckp4 cku0 cku1 cku2 cku3 cku4
          obtain ⟨B, hB⟩ : ∃ B, B = isBalanced p := ⟨_, rfl⟩
          rw [← hB]
          have HBB := Lib.hid hB
          clear hB
          cases B with
          | false =>
            have ckp0 := kp.cell 0 rfl
            have ckp1 := kp.cell 1 rfl
            have ckp2 := kp.cell 2 rfl
            have ckp3 := kp.cell 3 rfl
            have ckp4 := kp.cell 4 rfl
            have cku0 := ku.cell 0 rfl
            have cku1 := ku.cell 1 rfl
            have cku2 := ku.cell 2 rfl
            have cku3 := ku.cell 3 rfl
            have cku4 := ku.cell 4 rfl
            go_wp2
            go_ret
            exact ⟨rfl, HB.out⟩
          | true =>
            have ckp0 := kp.cell 0 rfl
            have ckp1 := kp.cell 1 rfl
            have ckp2 := kp.cell 2 rfl
            have ckp3 := kp.cell 3 rfl
            have ckp4 := kp.cell 4 rfl
            have cku0 := ku.cell 0 rfl
            have cku1 := ku.cell 1 rfl
            have cku2 := ku.cell 2 rfl
            have cku3 := ku.cell 3 rfl
            have cku4 := ku.cell 4 rfl
            go_wp2_with fail
            refine (implIsBalanced_any u q _ HU.out HZU.out).mono ?_
            rintro e w8 ⟨rfl, hb⟩
            rw [HBC.out HBB.out.symm]
            replace HR := Lib.hid (HR.out.below hb)
            replace HU := Lib.hid (HU.out.below hb)
            replace kp := kp.below hb
            replace ku := ku.below hb
            replace HB := Lib.hid (HB.out.trans (hb.mono HB.out.size))
            clear hb
            clear ckp0 ckp1 ckp2 ckp3 ckp4 cku0 cku1 cku2 cku3 cku4
            go_wp2
            go_ret
            exact ⟨rfl, HB.out⟩
  · go_enter Try.func5, Try.ntmps5
    go_wp2
    go_ret
    exact ⟨rfl, Below.refl _ _⟩

end Go.Proofs.Ytnobkdkfhgjeeab
