/- The law FnCutThread: its walk. -/
import Derived.Test.YtnobkdkfhgjeeabCutPlain
import Derived.Test.YtnobkdkfhgjeeabCutSpec
import Derived.Lib.QuietBelow
import Derived.BigQuiet
import Derived.IntWalk
namespace Go.Proofs.Ytnobkdkfhgjeeab
open Go.RowKit Go.Sort

set_option maxRecDepth 100000 in
set_option maxHeartbeats 4000000 in
theorem fnCutThreadLaw (a : Option Addr) (n c : Nat) (bs : List Int) (w : World) (hl : bs.length = n) (h1 : Rd w a (bytesV bs)) (hmx : n ≤ maxLen) (hcap : n ≤ c) (hby : ∀ b ∈ bs, 0 ≤ b ∧ b ≤ 255) :
    Calls Try.prog 3 #[.slice a n c] w fun e w' => e = .returned (.bool true) ∧ Below w.heap.size w w' := by
  unfold maxLen at hmx
  have HL := Lib.hid hl
  have HBY := Lib.hid hby
  clear hl hby
  by_cases hn : n ≤ 1048576
  · have hC := Lib.hid (Code13.mk HL.out h1 hcap HBY.out hn)
    clear HL HBY h1
    go_enter Try.func3, Try.ntmps3
    go_wp2_with fail
    refine (drawCutThread_any a n c bs w hC.out).mono ?_
    rintro e w1 ⟨v, vs, p, x, rfl, hx, o1, hb⟩
    have HB := Lib.hid hb
    have HR := Lib.hid o1.own.rd
    have HF := Lib.hid o1.few
    have HZ := Lib.hid (o1.small (by omega))
    clear hb o1 hC
    have bb : Below w1.heap.size w1 (w1.alloc (.cells #[.slice v.s v.ns v.cs, .slice v.g v.ng v.cg, .slice v.b v.nb v.cb, .slice v.r v.nr v.cr, .slice v.t v.nt v.ct] 26)) := (Below.refl _ _).alloc (Nat.le_refl _) _
    have kp : Blk (w1.alloc (.cells #[.slice v.s v.ns v.cs, .slice v.g v.ng v.cg, .slice v.b v.nb v.cb, .slice v.r v.nr v.cr, .slice v.t v.nt v.ct] 26)) w1.heap.size #[.slice v.s v.ns v.cs, .slice v.g v.ng v.cg, .slice v.b v.nb v.cb, .slice v.r v.nr v.cr, .slice v.t v.nt v.ct] 26 := Blk.new _ _ _
    replace HR := Lib.hid (HR.out.below bb)
    replace HB := Lib.hid (HB.out.trans (bb.mono HB.out.size))
    clear bb
    have ckp0 := kp.cell 0 rfl
    have ckp1 := kp.cell 1 rfl
    have ckp2 := kp.cell 2 rfl
    have ckp3 := kp.cell 3 rfl
    have ckp4 := kp.cell 4 rfl
    go_wp2_with fail
    refine (implCutThread_any v p x _ HR.out HZ.out).mono ?_
    rintro e w2 ⟨u, us, rfl, o2, nd2, fr2, hb⟩
    have HU := Lib.hid o2.rd
    clear o2 nd2 fr2
    replace HR := Lib.hid (HR.out.below hb)
    replace kp := kp.below hb
    replace HB := Lib.hid (HB.out.trans (hb.mono HB.out.size))
    clear hb
    clear ckp0 ckp1 ckp2 ckp3 ckp4
    have bb : Below w2.heap.size w2 (w2.alloc (.cells #[.slice u.s u.ns u.cs, .slice u.g u.ng u.cg, .slice u.b u.nb u.cb, .slice u.r u.nr u.cr, .slice u.t u.nt u.ct] 26)) := (Below.refl _ _).alloc (Nat.le_refl _) _
    have ku : Blk (w2.alloc (.cells #[.slice u.s u.ns u.cs, .slice u.g u.ng u.cg, .slice u.b u.nb u.cb, .slice u.r u.nr u.cr, .slice u.t u.nt u.ct] 26)) w2.heap.size #[.slice u.s u.ns u.cs, .slice u.g u.ng u.cg, .slice u.b u.nb u.cb, .slice u.r u.nr u.cr, .slice u.t u.nt u.ct] 26 := Blk.new _ _ _
    replace HR := Lib.hid (HR.out.below bb)
    replace HU := Lib.hid (HU.out.below bb)
    replace kp := kp.below bb
    replace HB := Lib.hid (HB.out.trans (bb.mono HB.out.size))
    clear bb
    have ckp0 := kp.cell 0 rfl
    have ckp1 := kp.cell 1 rfl
    have ckp2 := kp.cell 2 rfl
    have ckp3 := kp.cell 3 rfl
    have ckp4 := kp.cell 4 rfl
    have cku0 := ku.cell 0 rfl
    have cku1 := ku.cell 1 rfl
    have cku2 := ku.cell 2 rfl
    have cku3 := ku.cell 3 rfl
    have cku4 := ku.cell 4 rfl
    go_wp2_with fail
    refine (specCutThread_any v p x _ HR.out HZ.out).mono ?_
    rintro e w3 ⟨t, rfl, r3, hb⟩
    have HT := Lib.hid r3
    clear r3
    replace HR := Lib.hid (HR.out.below hb)
    replace HU := Lib.hid (HU.out.below hb)
    replace kp := kp.below hb
    replace ku := ku.below hb
    replace HB := Lib.hid (HB.out.trans (hb.mono HB.out.size))
    clear hb
    clear ckp0 ckp1 ckp2 ckp3 ckp4 cku0 cku1 cku2 cku3 cku4
    have bb : Below w3.heap.size w3 (w3.alloc (.cells #[.slice t.s t.ns t.cs, .slice t.g t.ng t.cg, .slice t.b t.nb t.cb, .slice t.r t.nr t.cr, .slice t.t t.nt t.ct] 26)) := (Below.refl _ _).alloc (Nat.le_refl _) _
    have kt : Blk (w3.alloc (.cells #[.slice t.s t.ns t.cs, .slice t.g t.ng t.cg, .slice t.b t.nb t.cb, .slice t.r t.nr t.cr, .slice t.t t.nt t.ct] 26)) w3.heap.size #[.slice t.s t.ns t.cs, .slice t.g t.ng t.cg, .slice t.b t.nb t.cb, .slice t.r t.nr t.cr, .slice t.t t.nt t.ct] 26 := Blk.new _ _ _
    replace HR := Lib.hid (HR.out.below bb)
    replace HU := Lib.hid (HU.out.below bb)
    replace HT := Lib.hid (HT.out.below bb)
    replace kp := kp.below bb
    replace ku := ku.below bb
    replace HB := Lib.hid (HB.out.trans (bb.mono HB.out.size))
    clear bb
    cases hq : cutThread p x with
    | none =>
      rw [hq] at HU HT
      simp only [Option.isSome_none, Option.getD_none] at HU HT ⊢
      clear hq
      have HZU := Lib.hid ((few_noPg 10).small' HU.out (by omega))
      have t1 : decide (noPg = noPg) = true := by simp
      have ckp0 := kp.cell 0 rfl
      have ckp1 := kp.cell 1 rfl
      have ckp2 := kp.cell 2 rfl
      have ckp3 := kp.cell 3 rfl
      have ckp4 := kp.cell 4 rfl
      have cku0 := ku.cell 0 rfl
      have cku1 := ku.cell 1 rfl
      have cku2 := ku.cell 2 rfl
      have cku3 := ku.cell 3 rfl
      have cku4 := ku.cell 4 rfl
      have ckt0 := kt.cell 0 rfl
      have ckt1 := kt.cell 1 rfl
      have ckt2 := kt.cell 2 rfl
      have ckt3 := kt.cell 3 rfl
      have ckt4 := kt.cell 4 rfl
      go_wp2_with fail
      refine (implProgSame_any u t noPg noPg _ HU.out HT.out HZU.out).mono ?_
      rintro e w4 ⟨rfl, hb⟩
      replace HR := Lib.hid (HR.out.below hb)
      replace HU := Lib.hid (HU.out.below hb)
      replace HT := Lib.hid (HT.out.below hb)
      replace kp := kp.below hb
      replace ku := ku.below hb
      replace kt := kt.below hb
      replace HB := Lib.hid (HB.out.trans (hb.mono HB.out.size))
      clear hb
      clear ckp0 ckp1 ckp2 ckp3 ckp4 cku0 cku1 cku2 cku3 cku4 ckt0 ckt1 ckt2 ckt3 ckt4
      have ckp0 := kp.cell 0 rfl
      have ckp1 := kp.cell 1 rfl
      have ckp2 := kp.cell 2 rfl
      have ckp3 := kp.cell 3 rfl
      have ckp4 := kp.cell 4 rfl
      have cku0 := ku.cell 0 rfl
      have cku1 := ku.cell 1 rfl
      have cku2 := ku.cell 2 rfl
      have cku3 := ku.cell 3 rfl
      have cku4 := ku.cell 4 rfl
      have ckt0 := kt.cell 0 rfl
      have ckt1 := kt.cell 1 rfl
      have ckt2 := kt.cell 2 rfl
      have ckt3 := kt.cell 3 rfl
      have ckt4 := kt.cell 4 rfl
      go_wp2_with fail
      refine (implProgSame_any u t noPg noPg _ HU.out HT.out HZU.out).mono ?_
      rintro e w5 ⟨rfl, hb⟩
      replace HR := Lib.hid (HR.out.below hb)
      replace HU := Lib.hid (HU.out.below hb)
      replace HT := Lib.hid (HT.out.below hb)
      replace kp := kp.below hb
      replace ku := ku.below hb
      replace kt := kt.below hb
      replace HB := Lib.hid (HB.out.trans (hb.mono HB.out.size))
      clear hb
      clear ckp0 ckp1 ckp2 ckp3 ckp4 cku0 cku1 cku2 cku3 cku4 ckt0 ckt1 ckt2 ckt3 ckt4
      go_wp2
      go_ret
      exact ⟨rfl, HB.out⟩
    | some q =>
      rw [hq] at HU HT
      simp only [Option.isSome_some, Option.getD_some] at HU HT ⊢
      obtain ⟨hvp, hvq, i, rfl, hi, h2, eq⟩ := cutThread_some hq
      obtain ⟨l1, l2⟩ := cut_sizes hvp hvq hi eq
      clear hq
      have hve := valid_thr hvq
      have HZU := Lib.hid ((few_thr (k := 10) HF.out (ts := p.threads.eraseIdx i) (by have := HF.out.t; rw [List.length_eraseIdx]; split <;> omega) (fun t ht => HF.out.i t (mem_erase ht))).small' (by rw [← eq]; exact HU.out) (by omega))
      rw [← eq] at HZU
      clear hve eq
      obtain ⟨r, hr⟩ : ∃ r, r = @cutThread := ⟨_, rfl⟩
      clear hr r
      skip
      have t1 : decide (q = q) = true := by simp
      have ckp0 := kp.cell 0 rfl
      have ckp1 := kp.cell 1 rfl
      have ckp2 := kp.cell 2 rfl
      have ckp3 := kp.cell 3 rfl
      have ckp4 := kp.cell 4 rfl
      have cku0 := ku.cell 0 rfl
      have cku1 := ku.cell 1 rfl
      have cku2 := ku.cell 2 rfl
      have cku3 := ku.cell 3 rfl
      have cku4 := ku.cell 4 rfl
      have ckt0 := kt.cell 0 rfl
      have ckt1 := kt.cell 1 rfl
      have ckt2 := kt.cell 2 rfl
      have ckt3 := kt.cell 3 rfl
      have ckt4 := kt.cell 4 rfl
      go_wp2_with fail
      refine (implProgSame_any u t q q _ HU.out HT.out HZU.out).mono ?_
      rintro e w4 ⟨rfl, hb⟩
      replace HR := Lib.hid (HR.out.below hb)
      replace HU := Lib.hid (HU.out.below hb)
      replace HT := Lib.hid (HT.out.below hb)
      replace kp := kp.below hb
      replace ku := ku.below hb
      replace kt := kt.below hb
      replace HB := Lib.hid (HB.out.trans (hb.mono HB.out.size))
      clear hb
      clear ckp0 ckp1 ckp2 ckp3 ckp4 cku0 cku1 cku2 cku3 cku4 ckt0 ckt1 ckt2 ckt3 ckt4
      have hv4 := (valid_thr hvp).1
      have lp := HR.out.lt
      have lq := HU.out.lt
      have HVP := Lib.hid hvp
      have HVQ := Lib.hid hvq
      have hs1 := sizeP_le p
      have hs2 := sizeP_le q
      obtain ⟨b, o, ev, ec⟩ := HR.out.thr (by omega)
      obtain ⟨a', c', ec, _⟩ := ec i hi
      obtain ⟨m, hm⟩ : ∃ m, m = (p.threads.getD i []).length := ⟨_, rfl⟩
      rw [← hm] at ec l2
      clear hm
      obtain ⟨s1, hs1'⟩ : ∃ s1, s1 = sizeP p := ⟨_, rfl⟩
      obtain ⟨s2, hs2'⟩ : ∃ s2, s2 = sizeP q := ⟨_, rfl⟩
      have cV : Hid (∀ d os, Calls Try.prog 14 #[.agg #[.slice u.s u.ns u.cs, .slice u.g u.ng u.cg, .slice u.b u.nb u.cb, .slice u.r u.nr u.cr, .slice u.t u.nt u.ct]] (grow (redrawn w4 d) os) fun e w'' => e = .returned (.bool true) ∧ ∃ p : Regrown, w'' = grow (redrawn w4 p.d) p.os) := Lib.hid (fun d os => Calls.regrown_of (by have := implProgValid_any u q (grow (redrawn w4 d) os) (HU.out.below (below_regrown _ _ _)) HZU.out; rw [HVQ.out] at this; exact this))
      have cU : Hid (∀ d os, Calls Try.prog 15 #[.agg #[.slice u.s u.ns u.cs, .slice u.g u.ng u.cg, .slice u.b u.nb u.cb, .slice u.r u.nr u.cr, .slice u.t u.nt u.ct]] (grow (redrawn w4 d) os) fun e w'' => e = .returned (.int .i64 (s2 : Nat)) ∧ ∃ p : Regrown, w'' = grow (redrawn w4 p.d) p.os) := Lib.hid (fun d os => Calls.regrown_of (by rw [hs2']; exact implSizeOf_any u q (grow (redrawn w4 d) os) (HU.out.below (below_regrown _ _ _)) HZU.out))
      have cP : Hid (∀ d os, Calls Try.prog 15 #[.agg #[.slice v.s v.ns v.cs, .slice v.g v.ng v.cg, .slice v.b v.nb v.cb, .slice v.r v.nr v.cr, .slice v.t v.nt v.ct]] (grow (redrawn w4 d) os) fun e w'' => e = .returned (.int .i64 (s1 : Nat)) ∧ ∃ p : Regrown, w'' = grow (redrawn w4 p.d) p.os) := Lib.hid (fun d os => Calls.regrown_of (by rw [hs1']; exact implSizeOf_any v p (grow (redrawn w4 d) os) (HR.out.below (below_regrown _ _ _)) HZ.out))
      have ckp0 := kp.cell 0 rfl
      have ckp1 := kp.cell 1 rfl
      have ckp2 := kp.cell 2 rfl
      have ckp3 := kp.cell 3 rfl
      have ckp4 := kp.cell 4 rfl
      have cku0 := ku.cell 0 rfl
      have cku1 := ku.cell 1 rfl
      have cku2 := ku.cell 2 rfl
      have cku3 := ku.cell 3 rfl
      have cku4 := ku.cell 4 rfl
      have ckt0 := kt.cell 0 rfl
      have ckt1 := kt.cell 1 rfl
      have ckt2 := kt.cell 2 rfl
      have ckt3 := kt.cell 3 rfl
      have ckt4 := kt.cell 4 rfl
      have r1 := cell_regrown ec
      have rckp0 := cell_regrown ckp0
      have rckp1 := cell_regrown ckp1
      have rckp2 := cell_regrown ckp2
      have rckp3 := cell_regrown ckp3
      have rckp4 := cell_regrown ckp4
      have rcku0 := cell_regrown cku0
      have rcku1 := cell_regrown cku1
      have rcku2 := cell_regrown cku2
      have rcku3 := cell_regrown cku3
      have rcku4 := cell_regrown cku4
      have rckt0 := cell_regrown ckt0
      have rckt1 := cell_regrown ckt1
      have rckt2 := cell_regrown ckt2
      have rckt3 := cell_regrown ckt3
      have rckt4 := cell_regrown ckt4
      rw [ev] at ckp4 rckp4 cP
      have w1' : IntKind.i64.wrap ((v.nt : Int) - 1) = (v.nt : Int) - 1 := IntWalk.i64_in _ (by omega)
      have w2' : IntKind.i64.wrap ((s1 : Int) - (m : Int)) = (s1 : Int) - (m : Int) := IntWalk.i64_in _ (by omega)
      have i0 : (0 : Int) ≤ (i : Int) := by omega
      have i1 : (i : Int) < (v.nt : Int) := by omega
      have y1 : ((u.nt : Int) == (v.nt : Int) - 1) = true := by simp; omega
      have y2 : ((s2 : Int) == (s1 : Int) - (m : Int)) = true := by simp; omega
      clear hs1 hs2 hs1' hs2' l1 l2 h2 hi lp lq hvp hvq ev t1
      rw [decide_eq_true (rfl : q = q)]
      go_wp2_with fail
      refine wp_region_quiet_below (by kernel_rfl) (by kernel_rfl) ?_
      repeat (go_big_quiet_step (first | (with_reducible exact cV.out _ _) | (with_reducible exact cU.out _ _) | (with_reducible exact cP.out _ _)))
      refine wpQuiet_nil ?_
      intro w6 hw6
      have hbq : Below w4.heap.size w4 w6 := by
        obtain ⟨pq, rfl⟩ := hw6
        exact below_regrown _ _ _
      clear hw6
      have HB6 := Lib.hid (HB.out.trans (hbq.mono HB.out.size))
      go_wp2
      go_ret
      exact ⟨rfl, HB6.out⟩
  · go_enter Try.func3, Try.ntmps3
    go_wp2
    go_ret
    exact ⟨rfl, Below.refl _ _⟩

end Go.Proofs.Ytnobkdkfhgjeeab
