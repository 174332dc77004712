/- The law FnPutOp: its walk. -/
import Derived.Test.YtnobkdkfhgjeeabPutPlain
import Derived.Test.YtnobkdkfhgjeeabPut
import Derived.Test.YtnobkdkfhgjeeabPutSpec
import Derived.Test.YtnobkdkfhgjeeabDrop
import Derived.Test.YtnobkdkfhgjeeabDrawPut
import Derived.Lib.QuietBelow
import Derived.BigQuiet
import Derived.IntWalk
namespace Go.Proofs.Ytnobkdkfhgjeeab
open Go.RowKit Go.Sort

/-- '==' on two operations. -/
theorem eqlOp (w : World) (a0 a1 a2 b0 b1 b2 : Int) : (binOp .eql 44 (.agg #[.int .i64 a0, .int .i64 a1, .int .i64 a2]) (.agg #[.int .i64 b0, .int .i64 b1, .int .i64 b2])).run Try.prog w = .ok (.bool (a0 == b0 && a1 == b1 && a2 == b2)) w := by
  have u3 := Try.underlying3
  have a3 := Try.isAgg3
  have z3 := Try.sizeOf3
  have hS : Try.prog.underlying 44 = some (.struct (Try.prog.fieldsOf 44)) := by kernel_rfl
  have hp : Try.prog.stoodInHeld 44 = false := by kernel_rfl
  rw [run_eql_struct, show (10000 : Nat) = 9999 + 1 from rfl, run_equalIn_agg w 9999 _ _ _ hS hp]
  simp only [Program.fieldsOf, Try.underlying44]
  go_simp
  by_cases h0 : a0 = b0 <;> by_cases h1 : a1 = b1 <;> by_cases h2 : a2 = b2 <;> simp [h0, h1, h2]
theorem eqlOp_same (w : World) (a0 a1 a2 : Int) : (binOp .eql 44 (.agg #[.int .i64 a0, .int .i64 a1, .int .i64 a2]) (.agg #[.int .i64 a0, .int .i64 a1, .int .i64 a2])).run Try.prog w = .ok (.bool true) w := by
  rw [eqlOp]; simp
theorem guardEqlOp (w : World) (x y : Operand) (xs ys : Array Value) : (eqGuard .eql 44 x y (.agg xs) (.agg ys)).run Try.prog w = .ok () w :=
  run_eqGuard_agg w .eql _ x y xs ys (by kernel_rfl)

set_option maxRecDepth 100000 in
set_option maxHeartbeats 4000000 in
theorem fnPutOpLaw (a : Option Addr) (n c : Nat) (bs : List Int) (w : World) (hl : bs.length = n) (h1 : Rd w a (bytesV bs)) (hmx : n ≤ maxLen) (hcap : n ≤ c) (hby : ∀ b ∈ bs, 0 ≤ b ∧ b ≤ 255) :
    Calls Try.prog 7 #[.slice a n c] w fun e w' => e = .returned (.bool true) ∧ Below w.heap.size w w' := by
  unfold maxLen at hmx
  have HL := Lib.hid hl
  have HBY := Lib.hid hby
  clear hl hby
  by_cases hn : n ≤ 1048576
  · have hC := Lib.hid (Code13.mk HL.out h1 hcap HBY.out hn)
    clear HL HBY h1
    go_enter Try.func7, Try.ntmps7
    go_wp2_with fail
    refine (drawPutOp_any a n c bs w hC.out).mono ?_
    rintro e w1 ⟨v, vs, p, x, y, od, rfl, hxy, o1, hb⟩
    have HB := Lib.hid hb
    have HR := Lib.hid o1.own.rd
    have HF := Lib.hid o1.few
    have HZ := Lib.hid (o1.small (by omega))
    have HO := Lib.hid o1.own
    clear hb o1 hC
    have bb : Below w1.heap.size w1 (w1.alloc (.cells #[.slice v.s v.ns v.cs, .slice v.g v.ng v.cg, .slice v.b v.nb v.cb, .slice v.r v.nr v.cr, .slice v.t v.nt v.ct] 26)) := (Below.refl _ _).alloc (Nat.le_refl _) _
    have kp : Blk (w1.alloc (.cells #[.slice v.s v.ns v.cs, .slice v.g v.ng v.cg, .slice v.b v.nb v.cb, .slice v.r v.nr v.cr, .slice v.t v.nt v.ct] 26)) w1.heap.size #[.slice v.s v.ns v.cs, .slice v.g v.ng v.cg, .slice v.b v.nb v.cb, .slice v.r v.nr v.cr, .slice v.t v.nt v.ct] 26 := Blk.new _ _ _
    replace HR := Lib.hid (HR.out.below bb)
    replace HO := Lib.hid (HO.out.below bb)
    replace HB := Lib.hid (HB.out.trans (bb.mono HB.out.size))
    clear bb
    have bb : Below (w1.alloc (.cells #[.slice v.s v.ns v.cs, .slice v.g v.ng v.cg, .slice v.b v.nb v.cb, .slice v.r v.nr v.cr, .slice v.t v.nt v.ct] 26)).heap.size (w1.alloc (.cells #[.slice v.s v.ns v.cs, .slice v.g v.ng v.cg, .slice v.b v.nb v.cb, .slice v.r v.nr v.cr, .slice v.t v.nt v.ct] 26)) ((w1.alloc (.cells #[.slice v.s v.ns v.cs, .slice v.g v.ng v.cg, .slice v.b v.nb v.cb, .slice v.r v.nr v.cr, .slice v.t v.nt v.ct] 26)).alloc (.cells #[.int .i64 od.kind, .int .i64 od.on, .int .i64 od.arg] 44)) := (Below.refl _ _).alloc (Nat.le_refl _) _
    have ko : Blk ((w1.alloc (.cells #[.slice v.s v.ns v.cs, .slice v.g v.ng v.cg, .slice v.b v.nb v.cb, .slice v.r v.nr v.cr, .slice v.t v.nt v.ct] 26)).alloc (.cells #[.int .i64 od.kind, .int .i64 od.on, .int .i64 od.arg] 44)) (w1.alloc (.cells #[.slice v.s v.ns v.cs, .slice v.g v.ng v.cg, .slice v.b v.nb v.cb, .slice v.r v.nr v.cr, .slice v.t v.nt v.ct] 26)).heap.size #[.int .i64 od.kind, .int .i64 od.on, .int .i64 od.arg] 44 := Blk.new _ _ _
    replace HR := Lib.hid (HR.out.below bb)
    replace HO := Lib.hid (HO.out.below bb)
    replace kp := kp.below bb
    replace HB := Lib.hid (HB.out.trans (bb.mono HB.out.size))
    clear bb
    replace ko : Blk ((w1.alloc (.cells #[.slice v.s v.ns v.cs, .slice v.g v.ng v.cg, .slice v.b v.nb v.cb, .slice v.r v.nr v.cr, .slice v.t v.nt v.ct] 26)).alloc (.cells #[.int .i64 od.kind, .int .i64 od.on, .int .i64 od.arg] 44)) (w1.heap.size + 1) #[.int .i64 od.kind, .int .i64 od.on, .int .i64 od.arg] 44 := by simpa using ko
    have ckp0 := kp.cell 0 rfl
    have ckp1 := kp.cell 1 rfl
    have ckp2 := kp.cell 2 rfl
    have ckp3 := kp.cell 3 rfl
    have ckp4 := kp.cell 4 rfl
    have cko0 := ko.cell 0 rfl
    have cko1 := ko.cell 1 rfl
    have cko2 := ko.cell 2 rfl
    go_wp2_with fail
    refine (implPutOp_any v p x y od _ HR.out HZ.out).mono ?_
    rintro e w2 ⟨u, us, rfl, o2, nd2, fr2, hb⟩
    have HU := Lib.hid o2.rd
    clear o2 nd2 fr2
    replace HR := Lib.hid (HR.out.below hb)
    replace HO := Lib.hid (HO.out.below hb)
    replace kp := kp.below hb
    replace ko := ko.below hb
    replace HB := Lib.hid (HB.out.trans (hb.mono HB.out.size))
    clear hb
    clear ckp0 ckp1 ckp2 ckp3 ckp4 cko0 cko1 cko2
    have bb : Below w2.heap.size w2 (w2.alloc (.cells #[.slice u.s u.ns u.cs, .slice u.g u.ng u.cg, .slice u.b u.nb u.cb, .slice u.r u.nr u.cr, .slice u.t u.nt u.ct] 26)) := (Below.refl _ _).alloc (Nat.le_refl _) _
    have ku : Blk (w2.alloc (.cells #[.slice u.s u.ns u.cs, .slice u.g u.ng u.cg, .slice u.b u.nb u.cb, .slice u.r u.nr u.cr, .slice u.t u.nt u.ct] 26)) w2.heap.size #[.slice u.s u.ns u.cs, .slice u.g u.ng u.cg, .slice u.b u.nb u.cb, .slice u.r u.nr u.cr, .slice u.t u.nt u.ct] 26 := Blk.new _ _ _
    replace HR := Lib.hid (HR.out.below bb)
    replace HO := Lib.hid (HO.out.below bb)
    replace HU := Lib.hid (HU.out.below bb)
    replace kp := kp.below bb
    replace ko := ko.below bb
    replace HB := Lib.hid (HB.out.trans (bb.mono HB.out.size))
    clear bb
    have ckp0 := kp.cell 0 rfl
    have ckp1 := kp.cell 1 rfl
    have ckp2 := kp.cell 2 rfl
    have ckp3 := kp.cell 3 rfl
    have ckp4 := kp.cell 4 rfl
    have cko0 := ko.cell 0 rfl
    have cko1 := ko.cell 1 rfl
    have cko2 := ko.cell 2 rfl
    have cku0 := ku.cell 0 rfl
    have cku1 := ku.cell 1 rfl
    have cku2 := ku.cell 2 rfl
    have cku3 := ku.cell 3 rfl
    have cku4 := ku.cell 4 rfl
    go_wp2_with fail
    refine (specPutOp_any v p x y od _ HR.out HZ.out HO.out.cap).mono ?_
    rintro e w3 ⟨t, ts, rfl, o3, hb⟩
    have HT := Lib.hid o3.rd
    clear o3
    replace HR := Lib.hid (HR.out.below hb)
    replace HO := Lib.hid (HO.out.below hb)
    replace HU := Lib.hid (HU.out.below hb)
    replace kp := kp.below hb
    replace ko := ko.below hb
    replace ku := ku.below hb
    replace HB := Lib.hid (HB.out.trans (hb.mono HB.out.size))
    clear hb
    clear ckp0 ckp1 ckp2 ckp3 ckp4 cko0 cko1 cko2 cku0 cku1 cku2 cku3 cku4
    have bb : Below w3.heap.size w3 (w3.alloc (.cells #[.slice t.s t.ns t.cs, .slice t.g t.ng t.cg, .slice t.b t.nb t.cb, .slice t.r t.nr t.cr, .slice t.t t.nt t.ct] 26)) := (Below.refl _ _).alloc (Nat.le_refl _) _
    have kt : Blk (w3.alloc (.cells #[.slice t.s t.ns t.cs, .slice t.g t.ng t.cg, .slice t.b t.nb t.cb, .slice t.r t.nr t.cr, .slice t.t t.nt t.ct] 26)) w3.heap.size #[.slice t.s t.ns t.cs, .slice t.g t.ng t.cg, .slice t.b t.nb t.cb, .slice t.r t.nr t.cr, .slice t.t t.nt t.ct] 26 := Blk.new _ _ _
    replace HR := Lib.hid (HR.out.below bb)
    replace HO := Lib.hid (HO.out.below bb)
    replace HU := Lib.hid (HU.out.below bb)
    replace HT := Lib.hid (HT.out.below bb)
    replace kp := kp.below bb
    replace ko := ko.below bb
    replace ku := ku.below bb
    replace HB := Lib.hid (HB.out.trans (bb.mono HB.out.size))
    clear bb
    cases hq : putOp p x y od with
    | none =>
      rw [hq] at HU HT
      simp only [Option.isSome_none, Option.getD_none] at HU HT ⊢
      clear hq
      have HZU := Lib.hid ((few_noPg 10).small' HU.out (by omega))
      have t1 : decide (noPg = noPg) = true := by simp
      have ckp0 := kp.cell 0 rfl
      have ckp1 := kp.cell 1 rfl
      have ckp2 := kp.cell 2 rfl
      have ckp3 := kp.cell 3 rfl
      have ckp4 := kp.cell 4 rfl
      have cko0 := ko.cell 0 rfl
      have cko1 := ko.cell 1 rfl
      have cko2 := ko.cell 2 rfl
      have cku0 := ku.cell 0 rfl
      have cku1 := ku.cell 1 rfl
      have cku2 := ku.cell 2 rfl
      have cku3 := ku.cell 3 rfl
      have cku4 := ku.cell 4 rfl
      have ckt0 := kt.cell 0 rfl
      have ckt1 := kt.cell 1 rfl
      have ckt2 := kt.cell 2 rfl
      have ckt3 := kt.cell 3 rfl
      have ckt4 := kt.cell 4 rfl
      go_wp2_with fail
      refine (implProgSame_any u t noPg noPg _ HU.out HT.out HZU.out).mono ?_
      rintro e w4 ⟨rfl, hb⟩
      replace HR := Lib.hid (HR.out.below hb)
      replace HO := Lib.hid (HO.out.below hb)
      replace HU := Lib.hid (HU.out.below hb)
      replace HT := Lib.hid (HT.out.below hb)
      replace kp := kp.below hb
      replace ko := ko.below hb
      replace ku := ku.below hb
      replace kt := kt.below hb
      replace HB := Lib.hid (HB.out.trans (hb.mono HB.out.size))
      clear hb
      clear ckp0 ckp1 ckp2 ckp3 ckp4 cko0 cko1 cko2 cku0 cku1 cku2 cku3 cku4 ckt0 ckt1 ckt2 ckt3 ckt4
      have ckp0 := kp.cell 0 rfl
      have ckp1 := kp.cell 1 rfl
      have ckp2 := kp.cell 2 rfl
      have ckp3 := kp.cell 3 rfl
      have ckp4 := kp.cell 4 rfl
      have cko0 := ko.cell 0 rfl
      have cko1 := ko.cell 1 rfl
      have cko2 := ko.cell 2 rfl
      have cku0 := ku.cell 0 rfl
      have cku1 := ku.cell 1 rfl
      have cku2 := ku.cell 2 rfl
      have cku3 := ku.cell 3 rfl
      have cku4 := ku.cell 4 rfl
      have ckt0 := kt.cell 0 rfl
      have ckt1 := kt.cell 1 rfl
      have ckt2 := kt.cell 2 rfl
      have ckt3 := kt.cell 3 rfl
      have ckt4 := kt.cell 4 rfl
      go_wp2_with fail
      refine (implProgSame_any u t noPg noPg _ HU.out HT.out HZU.out).mono ?_
      rintro e w5 ⟨rfl, hb⟩
      replace HR := Lib.hid (HR.out.below hb)
      replace HO := Lib.hid (HO.out.below hb)
      replace HU := Lib.hid (HU.out.below hb)
      replace HT := Lib.hid (HT.out.below hb)
      replace kp := kp.below hb
      replace ko := ko.below hb
      replace ku := ku.below hb
      replace kt := kt.below hb
      replace HB := Lib.hid (HB.out.trans (hb.mono HB.out.size))
      clear hb
      clear ckp0 ckp1 ckp2 ckp3 ckp4 cko0 cko1 cko2 cku0 cku1 cku2 cku3 cku4 ckt0 ckt1 ckt2 ckt3 ckt4
      go_wp2
      go_ret
      exact ⟨rfl, HB.out⟩
    | some q =>
      rw [hq] at HU HT
      simp only [Option.isSome_some, Option.getD_some] at HU HT ⊢
      obtain ⟨hvp, hvq, i, j, rfl, rfl, hi, hj, hov, h7, eq⟩ := putOp_some hq
      clear hq hxy
      obtain ⟨hdb, hget⟩ := drop_back hvq hi hj eq
      have hlen : ((p.threads.getD i []).insertIdx j od).length = (p.threads.getD i []).length + 1 := by rw [List.length_insertIdx, if_pos hj]
      have hsz := size_set hvp hvq hi eq
      have hlq : q.threads.length = p.threads.length := by rw [eq]; show (p.threads.set i _).length = _; simp
      have hrq : (q.threads.getD i []).length = (p.threads.getD i []).length + 1 := by rw [← hlen, eq]; show ((p.threads.set i _).getD i []).length = _; rw [getD_set_self [] _ p.threads i hi]
      have HZU := Lib.hid ((few_set (i := i) (t := (p.threads.getD i []).insertIdx j od) HF.out (by omega)).small' (by rw [← eq]; exact HU.out) (by omega))
      rw [← eq] at HZU
      have HDB := Lib.hid hdb
      have HVQ := Lib.hid hvq
      have HS : Hid (sizeP q = sizeP p + 1) := Lib.hid (by omega)
      have HGE := Lib.hid hget
      clear eq hdb hget hlen hsz hov
      have t1 : decide (q = q) = true := by simp
      have ckp0 := kp.cell 0 rfl
      have ckp1 := kp.cell 1 rfl
      have ckp2 := kp.cell 2 rfl
      have ckp3 := kp.cell 3 rfl
      have ckp4 := kp.cell 4 rfl
      have cko0 := ko.cell 0 rfl
      have cko1 := ko.cell 1 rfl
      have cko2 := ko.cell 2 rfl
      have cku0 := ku.cell 0 rfl
      have cku1 := ku.cell 1 rfl
      have cku2 := ku.cell 2 rfl
      have cku3 := ku.cell 3 rfl
      have cku4 := ku.cell 4 rfl
      have ckt0 := kt.cell 0 rfl
      have ckt1 := kt.cell 1 rfl
      have ckt2 := kt.cell 2 rfl
      have ckt3 := kt.cell 3 rfl
      have ckt4 := kt.cell 4 rfl
      go_wp2_with fail
      refine (implProgSame_any u t q q _ HU.out HT.out HZU.out).mono ?_
      rintro e w4 ⟨rfl, hb⟩
      rw [decide_eq_true (rfl : q = q)]
      replace HR := Lib.hid (HR.out.below hb)
      replace HO := Lib.hid (HO.out.below hb)
      replace HU := Lib.hid (HU.out.below hb)
      replace HT := Lib.hid (HT.out.below hb)
      replace kp := kp.below hb
      replace ko := ko.below hb
      replace ku := ku.below hb
      replace kt := kt.below hb
      replace HB := Lib.hid (HB.out.trans (hb.mono HB.out.size))
      clear hb
      clear ckp0 ckp1 ckp2 ckp3 ckp4 cko0 cko1 cko2 cku0 cku1 cku2 cku3 cku4 ckt0 ckt1 ckt2 ckt3 ckt4
      clear t1
      have ckp0 := kp.cell 0 rfl
      have ckp1 := kp.cell 1 rfl
      have ckp2 := kp.cell 2 rfl
      have ckp3 := kp.cell 3 rfl
      have ckp4 := kp.cell 4 rfl
      have cko0 := ko.cell 0 rfl
      have cko1 := ko.cell 1 rfl
      have cko2 := ko.cell 2 rfl
      have cku0 := ku.cell 0 rfl
      have cku1 := ku.cell 1 rfl
      have cku2 := ku.cell 2 rfl
      have cku3 := ku.cell 3 rfl
      have cku4 := ku.cell 4 rfl
      have ckt0 := kt.cell 0 rfl
      have ckt1 := kt.cell 1 rfl
      have ckt2 := kt.cell 2 rfl
      have ckt3 := kt.cell 3 rfl
      have ckt4 := kt.cell 4 rfl
      go_wp2_with fail
      refine (implDropOp_any u q (i : Int) (j : Int) _ HU.out HZU.out).mono ?_
      rintro e w5 ⟨z, zs, rfl, o5, nd5, fr5, hb⟩
      rw [HDB.out] at o5
      rw [HDB.out]
      simp only [Option.isSome_some, Option.getD_some] at o5 ⊢
      have HZB := Lib.hid o5.rd
      clear o5 nd5 fr5
      replace HR := Lib.hid (HR.out.below hb)
      replace HO := Lib.hid (HO.out.below hb)
      replace HU := Lib.hid (HU.out.below hb)
      replace HT := Lib.hid (HT.out.below hb)
      replace kp := kp.below hb
      replace ko := ko.below hb
      replace ku := ku.below hb
      replace kt := kt.below hb
      replace HB := Lib.hid (HB.out.trans (hb.mono HB.out.size))
      clear hb
      clear ckp0 ckp1 ckp2 ckp3 ckp4 cko0 cko1 cko2 cku0 cku1 cku2 cku3 cku4 ckt0 ckt1 ckt2 ckt3 ckt4
      go_wp2_with fail
      have bb : Below w5.heap.size w5 (w5.alloc (.cells #[.slice z.s z.ns z.cs, .slice z.g z.ng z.cg, .slice z.b z.nb z.cb, .slice z.r z.nr z.cr, .slice z.t z.nt z.ct] 26)) := (Below.refl _ _).alloc (Nat.le_refl _) _
      have kz : Blk (w5.alloc (.cells #[.slice z.s z.ns z.cs, .slice z.g z.ng z.cg, .slice z.b z.nb z.cb, .slice z.r z.nr z.cr, .slice z.t z.nt z.ct] 26)) w5.heap.size #[.slice z.s z.ns z.cs, .slice z.g z.ng z.cg, .slice z.b z.nb z.cb, .slice z.r z.nr z.cr, .slice z.t z.nt z.ct] 26 := Blk.new _ _ _
      replace HR := Lib.hid (HR.out.below bb)
      replace HO := Lib.hid (HO.out.below bb)
      replace HU := Lib.hid (HU.out.below bb)
      replace HT := Lib.hid (HT.out.below bb)
      replace HZB := Lib.hid (HZB.out.below bb)
      replace kp := kp.below bb
      replace ko := ko.below bb
      replace ku := ku.below bb
      replace kt := kt.below bb
      replace HB := Lib.hid (HB.out.trans (bb.mono HB.out.size))
      clear bb
      obtain ⟨W6, hW6⟩ : ∃ W6, W6 = (w5.alloc (.cells #[.slice z.s z.ns z.cs, .slice z.g z.ng z.cg, .slice z.b z.nb z.cb, .slice z.r z.nr z.cr, .slice z.t z.nt z.ct] 26)) := ⟨_, rfl⟩
      rw [← hW6] at HR HU HZB HB kp ko ku kz
      rw [← hW6]
      clear hW6 HT HO kt
      have HZP := Lib.hid (HF.out.small' HZB.out (by omega))
      have HLU := Lib.hid (hlq.symm.trans HU.out.lt)
      have hiq : i < q.threads.length := by omega
      have hiu : (i : Int) < (u.nt : Int) := by have := HU.out.lt; omega
      obtain ⟨b, o, eu, ec⟩ := HU.out.thr (by omega)
      obtain ⟨a', c', ec, er⟩ := ec i hiq
      obtain ⟨b2, o2, ea, eo⟩ := Rd.op er (by omega)
      obtain ⟨eo0, eo1, eo2⟩ := eo j (by omega)
      rw [HGE.out] at eo0 eo1 eo2
      obtain ⟨m, hm⟩ : ∃ m, m = (q.threads.getD i []).length := ⟨_, rfl⟩
      rw [← hm] at ec hrq
      have i0 : (0 : Int) ≤ (i : Int) := by omega
      have j0 : (0 : Int) ≤ (j : Int) := by omega
      have j1 : (j : Int) < (m : Int) := by omega
      obtain ⟨s1, hs1⟩ : ∃ s1, s1 = sizeP p := ⟨_, rfl⟩
      obtain ⟨s2, hs2⟩ : ∃ s2, s2 = sizeP q := ⟨_, rfl⟩
      have hb1 := sizeP_le p
      have hss := HS.out
      rw [← hs1, ← hs2] at hss
      rw [← hs1] at hb1
      have w1' : IntKind.i64.wrap ((s1 : Int) + 1) = (s1 : Int) + 1 := IntWalk.i64_in _ (by omega)
      have y2 : ((s2 : Int) == (s1 : Int) + 1) = true := by simp; omega
      have ke := eqlOp_same
      have kg := guardEqlOp
      have ckp0 := kp.cell 0 rfl
      have ckp1 := kp.cell 1 rfl
      have ckp2 := kp.cell 2 rfl
      have ckp3 := kp.cell 3 rfl
      have ckp4 := kp.cell 4 rfl
      have cko0 := ko.cell 0 rfl
      have cko1 := ko.cell 1 rfl
      have cko2 := ko.cell 2 rfl
      have cku0 := ku.cell 0 rfl
      have cku1 := ku.cell 1 rfl
      have cku2 := ku.cell 2 rfl
      have cku3 := ku.cell 3 rfl
      have cku4 := ku.cell 4 rfl
      have ckz0 := kz.cell 0 rfl
      have ckz1 := kz.cell 1 rfl
      have ckz2 := kz.cell 2 rfl
      have ckz3 := kz.cell 3 rfl
      have ckz4 := kz.cell 4 rfl
      rw [eu] at cku4
      rw [ea] at ec
      have cV : Hid (∀ d os, Calls Try.prog 14 #[.agg #[.slice u.s u.ns u.cs, .slice u.g u.ng u.cg, .slice u.b u.nb u.cb, .slice u.r u.nr u.cr, .slice u.t u.nt u.ct]] (grow (redrawn W6 d) os) fun e w'' => e = .returned (.bool true) ∧ ∃ p : Regrown, w'' = grow (redrawn W6 p.d) p.os) := Lib.hid (fun d os => Calls.regrown_of (by have := implProgValid_any u q (grow (redrawn W6 d) os) (HU.out.below (below_regrown _ _ _)) HZU.out; rw [HVQ.out] at this; exact this))
      have cU : Hid (∀ d os, Calls Try.prog 15 #[.agg #[.slice u.s u.ns u.cs, .slice u.g u.ng u.cg, .slice u.b u.nb u.cb, .slice u.r u.nr u.cr, .slice u.t u.nt u.ct]] (grow (redrawn W6 d) os) fun e w'' => e = .returned (.int .i64 (s2 : Nat)) ∧ ∃ p : Regrown, w'' = grow (redrawn W6 p.d) p.os) := Lib.hid (fun d os => Calls.regrown_of (by rw [hs2]; exact implSizeOf_any u q (grow (redrawn W6 d) os) (HU.out.below (below_regrown _ _ _)) HZU.out))
      have cP : Hid (∀ d os, Calls Try.prog 15 #[.agg #[.slice v.s v.ns v.cs, .slice v.g v.ng v.cg, .slice v.b v.nb v.cb, .slice v.r v.nr v.cr, .slice v.t v.nt v.ct]] (grow (redrawn W6 d) os) fun e w'' => e = .returned (.int .i64 (s1 : Nat)) ∧ ∃ p : Regrown, w'' = grow (redrawn W6 p.d) p.os) := Lib.hid (fun d os => Calls.regrown_of (by rw [hs1]; exact implSizeOf_any v p (grow (redrawn W6 d) os) (HR.out.below (below_regrown _ _ _)) HZ.out))
      have cS : Hid (∀ d os, Calls Try.prog 13 #[.agg #[.slice z.s z.ns z.cs, .slice z.g z.ng z.cg, .slice z.b z.nb z.cb, .slice z.r z.nr z.cr, .slice z.t z.nt z.ct], .agg #[.slice v.s v.ns v.cs, .slice v.g v.ng v.cg, .slice v.b v.nb v.cb, .slice v.r v.nr v.cr, .slice v.t v.nt v.ct]] (grow (redrawn W6 d) os) fun e w'' => e = .returned (.bool true) ∧ ∃ p : Regrown, w'' = grow (redrawn W6 p.d) p.os) := Lib.hid (fun d os => Calls.regrown_of (by have := implProgSame_any z v p p (grow (redrawn W6 d) os) (HZB.out.below (below_regrown _ _ _)) (HR.out.below (below_regrown _ _ _)) HZP.out; rw [decide_eq_true (rfl : p = p)] at this; exact this))
      rw [eu] at cV cU
      have rckp0 := cell_regrown ckp0
      have rckp1 := cell_regrown ckp1
      have rckp2 := cell_regrown ckp2
      have rckp3 := cell_regrown ckp3
      have rckp4 := cell_regrown ckp4
      have rcko0 := cell_regrown cko0
      have rcko1 := cell_regrown cko1
      have rcko2 := cell_regrown cko2
      have rcku0 := cell_regrown cku0
      have rcku1 := cell_regrown cku1
      have rcku2 := cell_regrown cku2
      have rcku3 := cell_regrown cku3
      have rcku4 := cell_regrown cku4
      have rckz0 := cell_regrown ckz0
      have rckz1 := cell_regrown ckz1
      have rckz2 := cell_regrown ckz2
      have rckz3 := cell_regrown ckz3
      have rckz4 := cell_regrown ckz4
      have rec_ := cell_regrown ec
      have reo0 := cell_regrown eo0
      have reo1 := cell_regrown eo1
      have reo2 := cell_regrown eo2
      clear hs1 hs2 hb1 hss eu ea er eo hm hvp hvq hi hj h7 hlq hrq hiq
      go_wp2_with fail
      refine wp_region_quiet_below (by kernel_rfl) (by kernel_rfl) ?_
      repeat (go_big_quiet_step (first | (with_reducible exact cV.out _ _) | (with_reducible exact cU.out _ _) | (with_reducible exact cP.out _ _) | (with_reducible exact cS.out _ _)))
      refine wpQuiet_nil ?_
      intro w6 hw6
      have hbq : Below W6.heap.size W6 w6 := by
        obtain ⟨pq, rfl⟩ := hw6
        exact below_regrown _ _ _
      clear hw6
      have HB6 := Lib.hid (HB.out.trans (hbq.mono HB.out.size))
      go_wp2
      go_ret
      exact ⟨rfl, HB6.out⟩
  · go_enter Try.func7, Try.ntmps7
    go_wp2
    go_ret
    exact ⟨rfl, Below.refl _ _⟩

end Go.Proofs.Ytnobkdkfhgjeeab
