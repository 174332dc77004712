/- The law FnBalancedThread: its walk. -/
import Derived.Test.YtnobkdkfhgjeeaaBalPlain
import Derived.Test.YtnobkdkfhgjeeaaBalImpl
import Derived.Test.YtnobkdkfhgjeeaaBalSpec
import Derived.Test.YtnobkdkfhgjeeaaDraw10
import Derived.Lib.QuietBelow
import Derived.BigQuiet
import Derived.IntWalk
namespace Go.Proofs.Ytnobkdkfhgjeeaa
open Go.RowKit Go.Sort

set_option maxRecDepth 100000 in
set_option maxHeartbeats 4000000 in
theorem fnBalancedThreadLaw (a : Option Addr) (n c : Nat) (bs : List Int) (w : World) (hl : bs.length = n) (h1 : Rd w a (bytesV bs)) (hmx : n ≤ maxLen) (hcap : n ≤ c) (hby : ∀ b ∈ bs, 0 ≤ b ∧ b ≤ 255) :
    Calls Try.prog 13 #[.slice a n c] w fun e w' => e = .returned (.bool true) ∧ Below w.heap.size w w' := by
  unfold maxLen at hmx
  have HL := Lib.hid hl
  have HBY := Lib.hid hby
  clear hl hby
  by_cases hn : n ≤ 1048576
  · have hC := Lib.hid (Code13.mk HL.out h1 hcap HBY.out hn)
    clear HL HBY h1
    go_enter Try.func13, Try.ntmps13
    go_wp2_with fail
    refine (drawIsBalanced_any a n c bs w hC.out).mono ?_
    rintro e w1 ⟨v, vs, p, rfl, o1, hb⟩
    have HB := Lib.hid hb
    have HR := Lib.hid o1.own.rd
    have HF := Lib.hid o1.few
    have HZ := Lib.hid (o1.small (by omega))
    have HO := Lib.hid o1.own
    clear hb o1 hC
    have bb : Below w1.heap.size w1 (w1.alloc (.cells #[.slice v.s v.ns v.cs, .slice v.g v.ng v.cg, .slice v.b v.nb v.cb, .slice v.r v.nr v.cr, .slice v.t v.nt v.ct] 30)) := (Below.refl _ _).alloc (Nat.le_refl _) _
    have kp : Blk (w1.alloc (.cells #[.slice v.s v.ns v.cs, .slice v.g v.ng v.cg, .slice v.b v.nb v.cb, .slice v.r v.nr v.cr, .slice v.t v.nt v.ct] 30)) w1.heap.size #[.slice v.s v.ns v.cs, .slice v.g v.ng v.cg, .slice v.b v.nb v.cb, .slice v.r v.nr v.cr, .slice v.t v.nt v.ct] 30 := Blk.new _ _ _
    replace HR := Lib.hid (HR.out.below bb)
    replace HO := Lib.hid (HO.out.below bb)
    replace HB := Lib.hid (HB.out.trans (bb.mono HB.out.size))
    clear bb
    have ckp0 := kp.cell 0 rfl
    have ckp1 := kp.cell 1 rfl
    have ckp2 := kp.cell 2 rfl
    have ckp3 := kp.cell 3 rfl
    have ckp4 := kp.cell 4 rfl
    go_wp2_with fail
    refine (implIsBalanced_any v p _ HR.out HZ.out).mono ?_
    rintro e w2 ⟨rfl, hb⟩
    replace HR := Lib.hid (HR.out.below hb)
    replace HO := Lib.hid (HO.out.below hb)
    replace kp := kp.below hb
    replace HB := Lib.hid (HB.out.trans (hb.mono HB.out.size))
    clear hb
    clear ckp0 ckp1 ckp2 ckp3 ckp4
    have ckp0 := kp.cell 0 rfl
    have ckp1 := kp.cell 1 rfl
    have ckp2 := kp.cell 2 rfl
    have ckp3 := kp.cell 3 rfl
    have ckp4 := kp.cell 4 rfl
    go_wp2_with fail
    refine (specIsBalanced_any v p _ HR.out HZ.out).mono ?_
    rintro e w3 ⟨rfl, hb⟩
    replace HR := Lib.hid (HR.out.below hb)
    replace HO := Lib.hid (HO.out.below hb)
    replace kp := kp.below hb
    replace HB := Lib.hid (HB.out.trans (hb.mono HB.out.size))
    clear hb
    clear ckp0 ckp1 ckp2 ckp3 ckp4
    obtain ⟨B, hB⟩ : ∃ B, B = isBalanced p := ⟨_, rfl⟩
    rw [← hB]
    have t1 : (B != B) = false := by simp
    have t2 : (B == B) = true := by simp
    have HBB := Lib.hid hB
    clear hB
    have ckp0 := kp.cell 0 rfl
    have ckp1 := kp.cell 1 rfl
    have ckp2 := kp.cell 2 rfl
    have ckp3 := kp.cell 3 rfl
    have ckp4 := kp.cell 4 rfl
    go_wp2_with fail
    refine (implProgValid_any v p _ HR.out HZ.out).mono ?_
    rintro e w4 ⟨rfl, hb⟩
    replace HR := Lib.hid (HR.out.below hb)
    replace HO := Lib.hid (HO.out.below hb)
    replace kp := kp.below hb
    replace HB := Lib.hid (HB.out.trans (hb.mono HB.out.size))
    clear hb
    clear ckp0 ckp1 ckp2 ckp3 ckp4
    cases hv : progValid p with
    | false =>
      obtain rfl : B = false := by rw [HBB.out]; exact bal_inv hv
      clear hv
      have ckp0 := kp.cell 0 rfl
      have ckp1 := kp.cell 1 rfl
      have ckp2 := kp.cell 2 rfl
      have ckp3 := kp.cell 3 rfl
      have ckp4 := kp.cell 4 rfl
      go_wp2_with fail
      refine (specIsBalanced_any v p _ HR.out HZ.out).mono ?_
      rintro e w5 ⟨rfl, hb⟩
      rw [← HBB.out]
      replace HR := Lib.hid (HR.out.below hb)
      replace HO := Lib.hid (HO.out.below hb)
      replace kp := kp.below hb
      replace HB := Lib.hid (HB.out.trans (hb.mono HB.out.size))
      clear hb
      clear ckp0 ckp1 ckp2 ckp3 ckp4
      go_wp2
      go_ret
      exact ⟨rfl, HB.out⟩
    | true =>
      have HV := Lib.hid hv
      have HLT := Lib.hid HR.out.lt
      have v4 : v.nt ≤ 4 := by have := HLT.out; have := (valid_ops hv).2.1; omega
      have hcap : v.nt ≤ v.ct ∧ v.ct ≤ maxLen := owns_cap HO.out.ot.out
      unfold maxLen at hcap
      obtain ⟨hc1, hc2⟩ := hcap
      have HKP := Lib.hid kp
      clear hv kp
      go_wp2_with fail
      go_loopw [5, 6] (fun v5 v6 wr => ∃ (i : Nat) (acc : Bool), i ≤ v.nt ∧ v6 = .int .i64 i ∧ v5 = .bool acc ∧ Hid (acc = (p.threads.take i).all (balThread p.sems.length)) ∧ Hid (Below w4.heap.size w4 wr)) (fun _ v6 _ => v.nt - (intOf v6).toNat)
      case atStart => exact ⟨0, true, Nat.zero_le _, rfl, rfl, Lib.hid (by simp), Lib.hid (Below.refl _ _)⟩
      case round =>
        obtain ⟨i, acc, hi, rfl, rfl, HA, HW⟩ := hrel
        have kp := HKP.out.below HW.out
        have HR1 := Lib.hid (HR.out.below HW.out)
        have c0 := kp.cell 0 rfl
        have c1 := kp.cell 1 rfl
        have c2 := kp.cell 2 rfl
        have c3 := kp.cell 3 rfl
        have c4 := kp.cell 4 rfl
        by_cases hlt : i < v.nt
        · have hip : i < p.threads.length := by have := HLT.out; omega
          obtain ⟨b, o, ev, _⟩ := HR1.out.thr (by omega)
          obtain ⟨vt, hvt⟩ := HR1.out.rt
          rw [ev] at hvt
          have HQ0 := HR1.out.sub (a := some ⟨b, o + i, none⟩) (n := 1) (c := v.ct - i) (by rw [List.length_take, List.length_drop]; omega) ⟨_, (hvt.drop i).take 1⟩
          have HQ := Lib.hid (HQ0.below ((Below.refl wr.heap.size wr).alloc (Nat.le_refl _) (.cells #[.slice v.s v.ns v.cs, .slice v.g v.ng v.cg, .slice v.b v.nb v.cb, .slice v.r v.nr v.cr, .slice (some ⟨b, o + i, none⟩) 1 (v.ct - i)] 30)))
          have HZQ : Hid (Small (v.thr (some ⟨b, o + i, none⟩) 1 (v.ct - i)) (p.thr ((p.threads.drop i).take 1))) := Lib.hid (HZ.out.sub (by omega) (fun x => by
            by_cases hx : x < ((p.threads.drop i).take 1).length
            · exact Nat.le_trans ((valid_ops HV.out).2.2 _ (List.mem_of_mem_drop (List.mem_of_mem_take (getD_mem0 [] _ x hx)))).1 (by decide)
            · rw [List.getD_eq_getElem?_getD, List.getElem?_eq_none (Nat.le_of_not_lt hx)]; simp))
          have HB1 := Lib.hid (bal_one HV.out i hip)
          have HT1 := Lib.hid (bal_take (p := p) i hip)
          obtain ⟨y, hy⟩ : ∃ y, y = balThread p.sems.length (p.threads.getD i []) := ⟨_, rfl⟩
          rw [← hy] at HB1 HT1
          have hwa : Below wr.heap.size wr (wr.alloc (.cells #[.slice v.s v.ns v.cs, .slice v.g v.ng v.cg, .slice v.b v.nb v.cb, .slice v.r v.nr v.cr, .slice (some ⟨b, o + i, none⟩) 1 (v.ct - i)] 30)) := (Below.refl _ _).alloc (Nat.le_refl _) _
          have HW1 := Lib.hid (HW.out.trans (hwa.mono HW.out.size))
          have ka0 : Blk (wr.alloc (.cells #[.slice v.s v.ns v.cs, .slice v.g v.ng v.cg, .slice v.b v.nb v.cb, .slice v.r v.nr v.cr, .slice v.t v.nt v.ct] 30)) wr.heap.size #[.slice v.s v.ns v.cs, .slice v.g v.ng v.cg, .slice v.b v.nb v.cb, .slice v.r v.nr v.cr, .slice v.t v.nt v.ct] 30 := Blk.new _ _ _
          have fa4 := ka0.fz 4
          have ca4 := ka0.cell 4 rfl
          have kp1 := kp.alloc (.cells #[.slice v.s v.ns v.cs, .slice v.g v.ng v.cg, .slice v.b v.nb v.cb, .slice v.r v.nr v.cr, .slice v.t v.nt v.ct] 30)
          have n1 : ¬ v.ct = i := by omega
          have n2 : ¬ i = v.ct := by omega
          have n3 : ¬ v.ct - i = 0 := by omega
          have cp4 := kp1.cell 4 rfl
          rw [ev] at cp4 fa4 c4
          have HEV := Lib.hid ev
          clear ev
          clear hvt HQ0 hy hip hwa ka0 kp1 kp
          cases acc with
          | true =>
            go_wp2_with fail
            refine (implIsBalanced_any (v.thr (some ⟨b, o + i, none⟩) 1 (v.ct - i)) (p.thr ((p.threads.drop i).take 1)) _ HQ.out HZQ.out).mono ?_
            rintro e w5 ⟨rfl, hb⟩
            rw [HB1.out]
            have HW2 := Lib.hid (HW1.out.trans (hb.mono HW1.out.size))
            clear hb
            go_wp2
            go_roundw
            case rel => exact ⟨i + 1, y, by omega, by go_num, rfl, Lib.hid (by rw [HT1.out, ← HA.out]; simp), HW2⟩
            case measure => simp [intOf]; omega
          | false =>
            go_wp2
            go_roundw
            case rel => exact ⟨i + 1, false, by omega, by go_num, rfl, Lib.hid (by rw [HT1.out, ← HA.out]; simp), HW1⟩
            case measure => simp [intOf]; omega
        · obtain rfl : i = v.nt := by omega
          have HAB : Hid (acc = B) := Lib.hid (by rw [HA.out, HBB.out, bal_all HV.out, ← HLT.out, List.take_length])
          obtain rfl := HAB.out
          have HB9 := Lib.hid (HB.out.trans (HW.out.mono HB.out.size))
          go_wp2
          go_ret
          exact ⟨rfl, HB9.out⟩
  · go_enter Try.func13, Try.ntmps13
    go_wp2
    go_ret
    exact ⟨rfl, Below.refl _ _⟩

end Go.Proofs.Ytnobkdkfhgjeeaa
