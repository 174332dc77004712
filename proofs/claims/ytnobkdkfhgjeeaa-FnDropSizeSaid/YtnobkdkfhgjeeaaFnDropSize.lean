/- The law FnDropSize: its walk. -/
import Derived.Test.YtnobkdkfhgjeeaaPutPlain
import Derived.Test.YtnobkdkfhgjeeaaDrop
import Derived.Test.YtnobkdkfhgjeeaaDropSpec
import Derived.Lib.QuietBelow
import Derived.BigQuiet
import Derived.IntWalk
namespace Go.Proofs.Ytnobkdkfhgjeeaa
open Go.RowKit Go.Sort

set_option maxRecDepth 100000 in
set_option maxHeartbeats 4000000 in
theorem fnDropSizeLaw (a : Option Addr) (n c : Nat) (bs : List Int) (w : World) (hl : bs.length = n) (h1 : Rd w a (bytesV bs)) (hmx : n ≤ maxLen) (hcap : n ≤ c) (hby : ∀ b ∈ bs, 0 ≤ b ∧ b ≤ 255) :
    Calls Try.prog 14 #[.slice a n c] w fun e w' => e = .returned (.bool true) ∧ Below w.heap.size w w' := by
  unfold maxLen at hmx
  have HL := Lib.hid hl
  have HBY := Lib.hid hby
  clear hl hby
  by_cases hn : n ≤ 1048576
  · have hC := Lib.hid (Code13.mk HL.out h1 hcap HBY.out hn)
    clear HL HBY h1
    go_enter Try.func14, Try.ntmps14
    go_wp2_with fail
    refine (drawDropOp_any a n c bs w hC.out).mono ?_
    rintro e w1 ⟨v, vs, p, x, y, rfl, hxy, o1, hb⟩
    have HB := Lib.hid hb
    have HR := Lib.hid o1.own.rd
    have HF := Lib.hid o1.few
    have HZ := Lib.hid (o1.small (by omega))
    have HO := Lib.hid o1.own
    clear hb o1 hC
    have bb : Below w1.heap.size w1 (w1.alloc (.cells #[.slice v.s v.ns v.cs, .slice v.g v.ng v.cg, .slice v.b v.nb v.cb, .slice v.r v.nr v.cr, .slice v.t v.nt v.ct] 30)) := (Below.refl _ _).alloc (Nat.le_refl _) _
    have kp : Blk (w1.alloc (.cells #[.slice v.s v.ns v.cs, .slice v.g v.ng v.cg, .slice v.b v.nb v.cb, .slice v.r v.nr v.cr, .slice v.t v.nt v.ct] 30)) w1.heap.size #[.slice v.s v.ns v.cs, .slice v.g v.ng v.cg, .slice v.b v.nb v.cb, .slice v.r v.nr v.cr, .slice v.t v.nt v.ct] 30 := Blk.new _ _ _
    replace HR := Lib.hid (HR.out.below bb)
    replace HO := Lib.hid (HO.out.below bb)
    replace HB := Lib.hid (HB.out.trans (bb.mono HB.out.size))
    clear bb
    have ckp0 := kp.cell 0 rfl
    have ckp1 := kp.cell 1 rfl
    have ckp2 := kp.cell 2 rfl
    have ckp3 := kp.cell 3 rfl
    have ckp4 := kp.cell 4 rfl
    go_wp2_with fail
    refine (implDropOp_any v p x y _ HR.out HZ.out).mono ?_
    rintro e w2 ⟨u, us, rfl, o2, nd2, fr2, hb⟩
    have HU := Lib.hid o2.rd
    have HOU := Lib.hid o2
    clear o2 nd2 fr2
    replace HR := Lib.hid (HR.out.below hb)
    replace HO := Lib.hid (HO.out.below hb)
    replace kp := kp.below hb
    replace HB := Lib.hid (HB.out.trans (hb.mono HB.out.size))
    clear hb
    clear ckp0 ckp1 ckp2 ckp3 ckp4
    have bb : Below w2.heap.size w2 (w2.alloc (.cells #[.slice u.s u.ns u.cs, .slice u.g u.ng u.cg, .slice u.b u.nb u.cb, .slice u.r u.nr u.cr, .slice u.t u.nt u.ct] 30)) := (Below.refl _ _).alloc (Nat.le_refl _) _
    have ku : Blk (w2.alloc (.cells #[.slice u.s u.ns u.cs, .slice u.g u.ng u.cg, .slice u.b u.nb u.cb, .slice u.r u.nr u.cr, .slice u.t u.nt u.ct] 30)) w2.heap.size #[.slice u.s u.ns u.cs, .slice u.g u.ng u.cg, .slice u.b u.nb u.cb, .slice u.r u.nr u.cr, .slice u.t u.nt u.ct] 30 := Blk.new _ _ _
    replace HR := Lib.hid (HR.out.below bb)
    replace HO := Lib.hid (HO.out.below bb)
    replace HU := Lib.hid (HU.out.below bb)
    replace HOU := Lib.hid (HOU.out.below bb)
    replace kp := kp.below bb
    replace HB := Lib.hid (HB.out.trans (bb.mono HB.out.size))
    clear bb
    have ckp0 := kp.cell 0 rfl
    have ckp1 := kp.cell 1 rfl
    have ckp2 := kp.cell 2 rfl
    have ckp3 := kp.cell 3 rfl
    have ckp4 := kp.cell 4 rfl
    have cku0 := ku.cell 0 rfl
    have cku1 := ku.cell 1 rfl
    have cku2 := ku.cell 2 rfl
    have cku3 := ku.cell 3 rfl
    have cku4 := ku.cell 4 rfl
    go_wp2_with fail
    refine (specDropOp_any v p x y _ HR.out HZ.out HO.out.cap).mono ?_
    rintro e w3 ⟨t, rfl, r3, hb⟩
    have HT := Lib.hid r3
    clear r3
    replace HR := Lib.hid (HR.out.below hb)
    replace HO := Lib.hid (HO.out.below hb)
    replace HU := Lib.hid (HU.out.below hb)
    replace HOU := Lib.hid (HOU.out.below hb)
    replace kp := kp.below hb
    replace ku := ku.below hb
    replace HB := Lib.hid (HB.out.trans (hb.mono HB.out.size))
    clear hb
    clear ckp0 ckp1 ckp2 ckp3 ckp4 cku0 cku1 cku2 cku3 cku4
    have bb : Below w3.heap.size w3 (w3.alloc (.cells #[.slice t.s t.ns t.cs, .slice t.g t.ng t.cg, .slice t.b t.nb t.cb, .slice t.r t.nr t.cr, .slice t.t t.nt t.ct] 30)) := (Below.refl _ _).alloc (Nat.le_refl _) _
    have kt : Blk (w3.alloc (.cells #[.slice t.s t.ns t.cs, .slice t.g t.ng t.cg, .slice t.b t.nb t.cb, .slice t.r t.nr t.cr, .slice t.t t.nt t.ct] 30)) w3.heap.size #[.slice t.s t.ns t.cs, .slice t.g t.ng t.cg, .slice t.b t.nb t.cb, .slice t.r t.nr t.cr, .slice t.t t.nt t.ct] 30 := Blk.new _ _ _
    replace HR := Lib.hid (HR.out.below bb)
    replace HO := Lib.hid (HO.out.below bb)
    replace HU := Lib.hid (HU.out.below bb)
    replace HOU := Lib.hid (HOU.out.below bb)
    replace HT := Lib.hid (HT.out.below bb)
    replace kp := kp.below bb
    replace ku := ku.below bb
    replace HB := Lib.hid (HB.out.trans (bb.mono HB.out.size))
    clear bb
    cases hq : dropOp p x y with
    | none =>
      rw [hq] at HU HOU HT
      simp only [Option.isSome_none, Option.getD_none] at HU HOU HT ⊢
      clear hq
      have HZU := Lib.hid ((few_noPg 10).small' HU.out (by omega))
      have t1 : decide (noPg = noPg) = true := by simp
      have ckp0 := kp.cell 0 rfl
      have ckp1 := kp.cell 1 rfl
      have ckp2 := kp.cell 2 rfl
      have ckp3 := kp.cell 3 rfl
      have ckp4 := kp.cell 4 rfl
      have cku0 := ku.cell 0 rfl
      have cku1 := ku.cell 1 rfl
      have cku2 := ku.cell 2 rfl
      have cku3 := ku.cell 3 rfl
      have cku4 := ku.cell 4 rfl
      have ckt0 := kt.cell 0 rfl
      have ckt1 := kt.cell 1 rfl
      have ckt2 := kt.cell 2 rfl
      have ckt3 := kt.cell 3 rfl
      have ckt4 := kt.cell 4 rfl
      go_wp2_with fail
      refine (implProgSame_any u t noPg noPg _ HU.out HT.out HZU.out).mono ?_
      rintro e w4 ⟨rfl, hb⟩
      replace HR := Lib.hid (HR.out.below hb)
      replace HO := Lib.hid (HO.out.below hb)
      replace HU := Lib.hid (HU.out.below hb)
      replace HOU := Lib.hid (HOU.out.below hb)
      replace HT := Lib.hid (HT.out.below hb)
      replace kp := kp.below hb
      replace ku := ku.below hb
      replace kt := kt.below hb
      replace HB := Lib.hid (HB.out.trans (hb.mono HB.out.size))
      clear hb
      clear ckp0 ckp1 ckp2 ckp3 ckp4 cku0 cku1 cku2 cku3 cku4 ckt0 ckt1 ckt2 ckt3 ckt4
      have ckp0 := kp.cell 0 rfl
      have ckp1 := kp.cell 1 rfl
      have ckp2 := kp.cell 2 rfl
      have ckp3 := kp.cell 3 rfl
      have ckp4 := kp.cell 4 rfl
      have cku0 := ku.cell 0 rfl
      have cku1 := ku.cell 1 rfl
      have cku2 := ku.cell 2 rfl
      have cku3 := ku.cell 3 rfl
      have cku4 := ku.cell 4 rfl
      have ckt0 := kt.cell 0 rfl
      have ckt1 := kt.cell 1 rfl
      have ckt2 := kt.cell 2 rfl
      have ckt3 := kt.cell 3 rfl
      have ckt4 := kt.cell 4 rfl
      go_wp2_with fail
      refine (implProgSame_any u t noPg noPg _ HU.out HT.out HZU.out).mono ?_
      rintro e w5 ⟨rfl, hb⟩
      replace HR := Lib.hid (HR.out.below hb)
      replace HO := Lib.hid (HO.out.below hb)
      replace HU := Lib.hid (HU.out.below hb)
      replace HOU := Lib.hid (HOU.out.below hb)
      replace HT := Lib.hid (HT.out.below hb)
      replace kp := kp.below hb
      replace ku := ku.below hb
      replace kt := kt.below hb
      replace HB := Lib.hid (HB.out.trans (hb.mono HB.out.size))
      clear hb
      clear ckp0 ckp1 ckp2 ckp3 ckp4 cku0 cku1 cku2 cku3 cku4 ckt0 ckt1 ckt2 ckt3 ckt4
      go_wp2
      go_ret
      exact ⟨rfl, HB.out⟩
    | some q =>
      rw [hq] at HU HOU HT
      simp only [Option.isSome_some, Option.getD_some] at HU HOU HT ⊢
      obtain ⟨hvp, hvq, i, j, rfl, rfl, hi, hj, eq⟩ := dropOp_some hq
      clear hq hxy
      have h8 := ((valid_ops hvp).2.2 _ (getD_mem' [] p.threads i hi)).1
      have he : ((p.threads.getD i []).eraseIdx j).length + 1 = (p.threads.getD i []).length := by rw [List.length_eraseIdx, if_pos hj]; omega
      have hsz := size_set hvp hvq hi eq
      have HZU := Lib.hid ((few_set (i := i) (t := (p.threads.getD i []).eraseIdx j) HF.out (by omega)).small' (by rw [← eq]; exact HU.out) (by omega))
      rw [← eq] at HZU
      have hlq : q.threads.length = p.threads.length := by rw [eq]; show (p.threads.set i _).length = _; simp
      have hrow : ∀ l, l < p.threads.length → (q.threads.getD l []).length = if l = i then (p.threads.getD l []).length - 1 else (p.threads.getD l []).length := by
        intro l hl
        by_cases hli : l = i
        · subst hli
          rw [if_pos rfl, show q.threads.getD l [] = (p.threads.getD l []).eraseIdx j from by rw [eq]; exact getD_set_self [] _ p.threads l hl]
          omega
        · rw [if_neg hli, eq]
          show ((p.threads.set i _).getD l []).length = _
          simp only [List.getD, List.getElem?_set_ne (fun e => hli e.symm)]
      have HROW := Lib.hid hrow
      have HJ := Lib.hid hj
      have HS : Hid (sizeP q + 1 = sizeP p) := Lib.hid (by omega)
      clear hrow hsz he h8 eq hj
      have t1 : decide (q = q) = true := by simp
      have ckp0 := kp.cell 0 rfl
      have ckp1 := kp.cell 1 rfl
      have ckp2 := kp.cell 2 rfl
      have ckp3 := kp.cell 3 rfl
      have ckp4 := kp.cell 4 rfl
      have cku0 := ku.cell 0 rfl
      have cku1 := ku.cell 1 rfl
      have cku2 := ku.cell 2 rfl
      have cku3 := ku.cell 3 rfl
      have cku4 := ku.cell 4 rfl
      have ckt0 := kt.cell 0 rfl
      have ckt1 := kt.cell 1 rfl
      have ckt2 := kt.cell 2 rfl
      have ckt3 := kt.cell 3 rfl
      have ckt4 := kt.cell 4 rfl
      go_wp2_with fail
      refine (implProgSame_any u t q q _ HU.out HT.out HZU.out).mono ?_
      rintro e w4 ⟨rfl, hb⟩
      replace HR := Lib.hid (HR.out.below hb)
      replace HO := Lib.hid (HO.out.below hb)
      replace HU := Lib.hid (HU.out.below hb)
      replace HOU := Lib.hid (HOU.out.below hb)
      replace HT := Lib.hid (HT.out.below hb)
      replace kp := kp.below hb
      replace ku := ku.below hb
      replace kt := kt.below hb
      replace HB := Lib.hid (HB.out.trans (hb.mono HB.out.size))
      clear hb
      clear ckp0 ckp1 ckp2 ckp3 ckp4 cku0 cku1 cku2 cku3 cku4 ckt0 ckt1 ckt2 ckt3 ckt4
      have hv4 := (valid_thr hvp).1
      have HLP := Lib.hid HR.out.lt
      have HLQ := Lib.hid (hlq.symm.trans HU.out.lt)
      have HLQ2 := Lib.hid hlq
      have lp4 : v.nt ≤ 4 := by have := HLP.out; omega
      have HI : Hid (i < p.threads.length) := Lib.hid hi
      have H8 : Hid (∀ l, l < p.threads.length → (p.threads.getD l []).length ≤ 8) := Lib.hid (fun l hl => ((valid_ops hvp).2.2 _ (getD_mem' [] p.threads l hl)).1)
      clear hi hlq hv4 hvp hvq
      have ckp0 := kp.cell 0 rfl
      have ckp1 := kp.cell 1 rfl
      have ckp2 := kp.cell 2 rfl
      have ckp3 := kp.cell 3 rfl
      have ckp4 := kp.cell 4 rfl
      have cku0 := ku.cell 0 rfl
      have cku1 := ku.cell 1 rfl
      have cku2 := ku.cell 2 rfl
      have cku3 := ku.cell 3 rfl
      have cku4 := ku.cell 4 rfl
      have ckt0 := kt.cell 0 rfl
      have ckt1 := kt.cell 1 rfl
      have ckt2 := kt.cell 2 rfl
      have ckt3 := kt.cell 3 rfl
      have ckt4 := kt.cell 4 rfl
      rw [decide_eq_true (rfl : q = q)]
      clear t1
      go_wp2_with fail
      go_loop [10] (fun vi => ∃ l : Nat, l ≤ v.nt ∧ vi = .int .i64 l) (fun vi => v.nt - (intOf vi).toNat)
      case atStart => exact ⟨0, Nat.zero_le _, rfl⟩
      case round =>
        obtain ⟨l, hl, rfl⟩ := hrel
        by_cases hlt : l < v.nt
        · obtain ⟨b, o, ev, ec⟩ := HR.out.thr (by have := HLP.out; omega)
          obtain ⟨b2, o2, eu, eq⟩ := HU.out.thr (by have := HLQ2.out; have := HLP.out; omega)
          obtain ⟨a', c', ec, _⟩ := ec l (by have := HLP.out; omega)
          obtain ⟨a2, c2, eq, _⟩ := eq l (by have := HLQ2.out; have := HLP.out; omega)
          have hrl := HROW.out l (by have := HLP.out; omega)
          rw [hrl] at eq
          have hut : u.nt = v.nt := by have := HLP.out; have := HLQ.out; omega
          have h8 := H8.out l (by have := HLP.out; omega)
          obtain ⟨m, hm⟩ : ∃ m, m = (p.threads.getD l []).length := ⟨_, rfl⟩
          rw [← hm] at ec eq h8
          have hu1 : (l : Int) < (u.nt : Int) := by omega
          have hm1' : l = i → 1 ≤ m := fun e => by have := HJ.out; rw [hm, e]; omega
          clear hm hrl hut
          rw [ev] at ckp4
          rw [eu] at cku4
          by_cases hli : l = i
          · have t2 : ((l : Int) == (i : Int)) = true := by simp; omega
            have hm1 : 1 ≤ m := hm1' hli
            clear hm1'
            rw [if_pos hli] at eq
            have t3 : (((m - 1 : Nat) : Int) != (m : Int) - 1) = false := by simp; omega
            clear hli
            go_wp2
            go_round
            case rel => exact ⟨l + 1, by omega, by go_num⟩
            case measure => simp [intOf]; omega
          · have t2 : ((l : Int) == (i : Int)) = false := by simp; omega
            rw [if_neg hli] at eq
            have t3 : (((m : Nat) : Int) != (m : Int)) = false := by simp
            clear hli
            go_wp2
            go_round
            case rel => exact ⟨l + 1, by omega, by go_num⟩
            case measure => simp [intOf]; omega
        · obtain rfl : l = v.nt := by omega
          obtain ⟨s1, hs1⟩ : ∃ s1, s1 = sizeP p := ⟨_, rfl⟩
          obtain ⟨s2, hs2⟩ : ∃ s2, s2 = sizeP q := ⟨_, rfl⟩
          have hb1 := sizeP_le p
          have hss := HS.out
          rw [← hs1, ← hs2] at hss
          rw [← hs1] at hb1
          have w1' : IntKind.i64.wrap ((s1 : Int) - 1) = (s1 : Int) - 1 := IntWalk.i64_in _ (by omega)
          have y2 : ((s2 : Int) == (s1 : Int) - 1) = true := by simp; omega
          have cU : Hid (∀ d os, Calls Try.prog 47 #[.agg #[.slice u.s u.ns u.cs, .slice u.g u.ng u.cg, .slice u.b u.nb u.cb, .slice u.r u.nr u.cr, .slice u.t u.nt u.ct]] (grow (redrawn w4 d) os) fun e w'' => e = .returned (.int .i64 (s2 : Nat)) ∧ ∃ p : Regrown, w'' = grow (redrawn w4 p.d) p.os) := Lib.hid (fun d os => Calls.regrown_of (by rw [hs2]; exact implSizeOf_any u q (grow (redrawn w4 d) os) (HU.out.below (below_regrown _ _ _)) HZU.out))
          have cP : Hid (∀ d os, Calls Try.prog 47 #[.agg #[.slice v.s v.ns v.cs, .slice v.g v.ng v.cg, .slice v.b v.nb v.cb, .slice v.r v.nr v.cr, .slice v.t v.nt v.ct]] (grow (redrawn w4 d) os) fun e w'' => e = .returned (.int .i64 (s1 : Nat)) ∧ ∃ p : Regrown, w'' = grow (redrawn w4 p.d) p.os) := Lib.hid (fun d os => Calls.regrown_of (by rw [hs1]; exact implSizeOf_any v p (grow (redrawn w4 d) os) (HR.out.below (below_regrown _ _ _)) HZ.out))
          clear hs1 hs2 hb1 hss
          have rckp0 := cell_regrown ckp0
          have rckp1 := cell_regrown ckp1
          have rckp2 := cell_regrown ckp2
          have rckp3 := cell_regrown ckp3
          have rckp4 := cell_regrown ckp4
          have rcku0 := cell_regrown cku0
          have rcku1 := cell_regrown cku1
          have rcku2 := cell_regrown cku2
          have rcku3 := cell_regrown cku3
          have rcku4 := cell_regrown cku4
          have rckt0 := cell_regrown ckt0
          have rckt1 := cell_regrown ckt1
          have rckt2 := cell_regrown ckt2
          have rckt3 := cell_regrown ckt3
          have rckt4 := cell_regrown ckt4
          go_wp2_with fail
          refine wp_region_quiet_below (by kernel_rfl) (by kernel_rfl) ?_
          repeat (go_big_quiet_step (first | (with_reducible exact cU.out _ _) | (with_reducible exact cP.out _ _)))
          refine wpQuiet_nil ?_
          intro w6 hw6
          have hbq : Below w4.heap.size w4 w6 := by
            obtain ⟨pq, rfl⟩ := hw6
            exact below_regrown _ _ _
          clear hw6
          have HB6 := Lib.hid (HB.out.trans (hbq.mono HB.out.size))
          go_wp2
          go_ret
          exact ⟨rfl, HB6.out⟩
  · go_enter Try.func14, Try.ntmps14
    go_wp2
    go_ret
    exact ⟨rfl, Below.refl _ _⟩

end Go.Proofs.Ytnobkdkfhgjeeaa
