/- Part of a proof: BaseA BaseB BaseE IRun IOver RunEnds Draw10. -/
import Derived.Deep.RegionHeld3
import Derived.Lib.QuietBelow
import Derived.BigQuiet
import Derived.IntWalk
import Derived.Deep.Cut
import Derived.Deep.AppendLies
import Derived.Test.YtoeockmkhpehbaaQPRun
import Derived.Test.YtoeockmkhpehbaaRows
import Derived.WalkKit
import Derived.WalkSmall
import Derived.Lib.Hide
import Derived.WalkSpells
import Derived.WalkLawsBesides
import Derived.Deep.QuietTactic
import Derived.Maps.AppendAt
import Derived.Laws.IdiomStrings
import Derived.StillTailTactics
import Derived.StillTail
import Derived.ArgAppend
import Derived.Deep.Slices
import Derived.ProofKit
import Derived.Shelf.Abstract
set_option maxRecDepth 100000
set_option maxHeartbeats 16000000
namespace Go.Proofs.Ytoeockmkhpehbaa
open Go.RowKit


section
variable {w w' : World} {R : Nat} {a : Option Addr} {n c : Nat} {bs : List Int} {p : Int}
end
section
variable {P : Program} {w : World}
end






end Go.Proofs.Ytoeockmkhpehbaa
namespace Go.Proofs.Ytoeockmkhpehbaa
open Go.RowKit Go.Sort
theorem keepb {u w w' : World} {C : Prop} (hb : Below w.heap.size w w') (h : C ∧ Below u.heap.size u w) : Below u.heap.size u w' := h.2.trans (hb.mono h.2.size)
end Go.Proofs.Ytoeockmkhpehbaa
namespace Go.Proofs.Ytoeockmkhpehbaa
open Go.RowKit









end Go.Proofs.Ytoeockmkhpehbaa
namespace Go.Proofs.Ytoeockmkhpehbaa
open Go.RowKit Go.ChangeShapes Go.WideShapes Go.Deep
section
variable {H : Type} {enc : TypeId × Value → H} {w : World} {base : Nat} {held : Bool}
end
end Go.Proofs.Ytoeockmkhpehbaa
namespace Go.Proofs.Ytoeockmkhpehbaa
open Go.RowKit


end Go.Proofs.Ytoeockmkhpehbaa
namespace Go.Proofs.Ytoeockmkhpehbaa
open Go.RowKit Go.Sort

end Go.Proofs.Ytoeockmkhpehbaa
namespace Go.Proofs.Ytoeockmkhpehbaa
open Go.RowKit

end Go.Proofs.Ytoeockmkhpehbaa
namespace Go.Proofs.Ytoeockmkhpehbaa
open Go.RowKit Go.Sort

end Go.Proofs.Ytoeockmkhpehbaa
namespace Go.Proofs.Ytoeockmkhpehbaa
open Go.RowKit

def onlyOp (o : OpD) : Bool := decide (o.kind = 1) || decide (o.kind = 2) || decide (o.kind = 3)
def all2 (p : Pg) (q : OpD → Bool) : Bool := p.threads.all (fun t => t.all q)
def onlySems (p : Pg) : Bool := progValid p && all2 p onlyOp
theorem all2_bad {p : Pg} {q : OpD → Bool} {i k : Nat} (hi : i < p.threads.length) (hk : k < (p.threads.getD i []).length) (h : q ((p.threads.getD i []).getD k noOp) = false) : all2 p q = false := by
 unfold all2
 rw [List.all_eq_false]
 have e : p.threads.getD i [] = p.threads[i] := by simp [List.getD, hi]
 rw [e] at hk h
 have e2 : (p.threads[i]).getD k noOp = (p.threads[i])[k] := by simp [List.getD, hk]
 rw [e2] at h
 have : (p.threads[i]).all q = false := by rw [List.all_eq_false]; exact ⟨_, List.getElem_mem hk, by rw [h]; simp⟩
 exact ⟨p.threads[i], List.getElem_mem hi, by rw [this]; simp⟩
theorem all2_good {p : Pg} {q : OpD → Bool} (h : ∀ i, i < p.threads.length → ∀ k, k < (p.threads.getD i []).length → q ((p.threads.getD i []).getD k noOp) = true) : all2 p q = true := by
 unfold all2
 rw [List.all_eq_true]
 intro t ht
 obtain ⟨i, hi, rfl⟩ := List.getElem_of_mem ht
 have e : p.threads.getD i [] = p.threads[i] := by simp [List.getD, hi]
 have := h i hi
 rw [e] at this
 rw [List.all_eq_true]
 intro o ho
 obtain ⟨k, hk, rfl⟩ := List.getElem_of_mem ho
 have e2 : (p.threads[i]).getD k noOp = (p.threads[i])[k] := by simp [List.getD, hk]
 rw [← e2]; exact this k hk
theorem implOnlySems_any (v : PV) (p : Pg) (w : World) (hr : RdP w v p) (hz : Small v p) :
  Calls Try.prog 24 #[.agg #[.slice v.s v.ns v.cs, .slice v.g v.ng v.cg, .slice v.b v.nb v.cb, .slice v.r v.nr v.cr, .slice v.t v.nt v.ct]] w fun e w' => e = .returned (.bool (onlySems p)) ∧ Below w.heap.size w w' := by
 have hs : v.ns ≤ maxLen ∧ v.ng ≤ maxLen ∧ v.nb ≤ maxLen ∧ v.nr ≤ maxLen := by
  obtain ⟨z1, z2, z3, z4, z5, z6⟩ := hz; unfold maxLen; omega
 have zz : Hid (v.ns ≤ maxLen ∧ v.ng ≤ maxLen ∧ v.nb ≤ maxLen ∧ v.nr ≤ maxLen) := xH1 hs
 have HZ := xH1 hz
 have z5 : v.nt ≤ 1048576 := hz.lt
 have Z6 := xH1 hz.inn
 have ls := xH1 hr.ls
 have lg := xH1 hr.lg
 have lb := xH1 hr.lb
 have lr := xH1 hr.lr
 have lt := xH1 hr.lt
 clear hz
 have B0 : Below w.heap.size w (w.alloc (.cells #[.slice v.s v.ns v.cs, .slice v.g v.ng v.cg, .slice v.b v.nb v.cb, .slice v.r v.nr v.cr, .slice v.t v.nt v.ct] 26)) := xA1
 have k0 : Blk (w.alloc (.cells #[.slice v.s v.ns v.cs, .slice v.g v.ng v.cg, .slice v.b v.nb v.cb, .slice v.r v.nr v.cr, .slice v.t v.nt v.ct] 26)) w.heap.size #[.slice v.s v.ns v.cs, .slice v.g v.ng v.cg, .slice v.b v.nb v.cb, .slice v.r v.nr v.cr, .slice v.t v.nt v.ct] 26 := Blk.new _ _ _
 have q0 : (w.alloc (.cells #[.slice v.s v.ns v.cs, .slice v.g v.ng v.cg, .slice v.b v.nb v.cb, .slice v.r v.nr v.cr, .slice v.t v.nt v.ct] 26)).cell? ⟨w.heap.size, 0, none⟩ = some (.slice v.s v.ns v.cs) := k0.cell 0 rfl
 have q1 : (w.alloc (.cells #[.slice v.s v.ns v.cs, .slice v.g v.ng v.cg, .slice v.b v.nb v.cb, .slice v.r v.nr v.cr, .slice v.t v.nt v.ct] 26)).cell? ⟨w.heap.size, 1, none⟩ = some (.slice v.g v.ng v.cg) := k0.cell 1 rfl
 have q2 : (w.alloc (.cells #[.slice v.s v.ns v.cs, .slice v.g v.ng v.cg, .slice v.b v.nb v.cb, .slice v.r v.nr v.cr, .slice v.t v.nt v.ct] 26)).cell? ⟨w.heap.size, 2, none⟩ = some (.slice v.b v.nb v.cb) := k0.cell 2 rfl
 have q3 : (w.alloc (.cells #[.slice v.s v.ns v.cs, .slice v.g v.ng v.cg, .slice v.b v.nb v.cb, .slice v.r v.nr v.cr, .slice v.t v.nt v.ct] 26)).cell? ⟨w.heap.size, 3, none⟩ = some (.slice v.r v.nr v.cr) := k0.cell 3 rfl
 have q4 : (w.alloc (.cells #[.slice v.s v.ns v.cs, .slice v.g v.ng v.cg, .slice v.b v.nb v.cb, .slice v.r v.nr v.cr, .slice v.t v.nt v.ct] 26)).cell? ⟨w.heap.size, 4, none⟩ = some (.slice v.t v.nt v.ct) := k0.cell 4 rfl
 clear k0
 rcases Bool.eq_false_or_eq_true (progValid p) with hv | hv
 rotate_left
 ·have HB : Hid (onlySems p = false) := xH1 (by unfold onlySems; rw [hv]; rfl)
  have HV := xH1 hv
  clear hv
  go_enter Try.func24, Try.ntmps24
  go_wp2_with fail
  refine (implProgValid_any v p _ (hr.below B0) HZ.out).mono ?_
  rintro e w1 ⟨rfl, hb⟩
  rw [HV.out]
  have B1 := B0.trans (hb.mono B0.size)
  replace q0 := keepc hb q0
  replace q1 := keepc hb q1
  replace q2 := keepc hb q2
  replace q3 := keepc hb q3
  replace q4 := keepc hb q4
  clear hb B0
  go_wp2
  go_ret
  exact ⟨ret_bool (by rw [HB.out]), B1⟩
 have hln := (valid_threads hv).1
 have HV := xH1 hv
 clear hv
 go_enter Try.func24, Try.ntmps24
 go_wp2_with fail
 refine (implProgValid_any v p _ (hr.below B0) HZ.out).mono ?_
 rintro e w1 ⟨rfl, hb⟩
 rw [HV.out]
 have B1 := B0.trans (hb.mono B0.size)
 replace q0 := keepc hb q0
 replace q1 := keepc hb q1
 replace q2 := keepc hb q2
 replace q3 := keepc hb q3
 replace q4 := keepc hb q4
 clear hb B0
 go_wp2
 obtain ⟨vs, hT⟩ := hr.rt
 obtain ⟨b1, o1, ea, g1'⟩ := (hT.below B1).thread (by omega)
 rw [ea] at q4
 have HRP : Hid (∀ w', RdP w' v p → RdP w' ⟨v.s, v.ns, v.cs, v.g, v.ng, v.cg, v.b, v.nb, v.cb, v.r, v.nr, v.cr, some ⟨b1, o1, none⟩, v.nt, v.ct⟩ p) := xH1 (by rw [← ea]; exact fun _ h => h)
 have G1 := xH1 g1'
 rw [ea]
 clear g1' ea hT
 go_loopw [13] (fun i wr => ∃ i' : Nat, i' ≤ v.nt ∧ i = .int .i64 i' ∧ Hid (∀ j, j < i' → ∀ k, k < (p.threads.getD j []).length → onlyOp ((p.threads.getD j []).getD k noOp) = true) ∧ Below w1.heap.size w1 wr) (fun i _ => v.nt - (intOf i).toNat)
 case atStart => exact ⟨0, by omega, rfl, xH1 (by omega), Below.refl _ _⟩
 case round =>
  obtain ⟨i, hi, rfl, hall, hb0⟩ := hrel
  have B2 : Below w.heap.size w wr := B1.trans (hb0.mono B1.size)
  by_cases hlt : i < v.nt
  ·obtain ⟨wo, hwo⟩ : ∃ wo : World, wo = wr := ⟨_, rfl⟩
   rw [← hwo] at hb0 B2 ⊢
   clear hwo wr
   obtain ⟨a2, x2, g1, r2⟩ := G1.out i (by have := lt.out; omega)
   obtain ⟨m, hm⟩ : ∃ m, m = (p.threads.getD i []).length := ⟨_, rfl⟩
   rw [← hm] at g1
   replace g1 := keepc hb0 g1
   replace r2 := r2.below hb0
   have hmm := Z6.out i
   rw [← hm] at hmm
   have HM := xH1 hm
   clear hm
   go_wp2
   go_loopw [19] (fun j wk => ∃ k : Nat, k ≤ m ∧ j = .int .i64 k ∧ Hid (∀ j, j < k → onlyOp ((p.threads.getD i []).getD j noOp) = true) ∧ Below wo.heap.size wo wk) (fun j _ => m - (intOf j).toNat)
   case atStart => exact ⟨0, by omega, rfl, xH1 (by omega), Below.refl _ _⟩
   case round =>
    obtain ⟨k, hk, rfl, hok, hbk⟩ := hrel
    have B3 : Below w.heap.size w wr := B2.trans (hbk.mono B2.size)
    have BW : Below w1.heap.size w1 wr := hb0.trans (hbk.mono hb0.size)
    by_cases hkl : k < m
    ·skip
     obtain ⟨b2, o2, ea2, g2'⟩ := r2.op (by have := HM.out; omega)
     obtain ⟨g2a, g2b, g2c⟩ := g2' k (by have := HM.out; omega)
     obtain ⟨o, ho⟩ : ∃ o, o = (p.threads.getD i []).getD k noOp := ⟨_, rfl⟩
     rw [← ho] at g2a g2b g2c
     replace g2a := keepc hbk g2a
     replace g2b := keepc hbk g2b
     replace g2c := keepc hbk g2c
     have HO := xH1 ho
     subst ea2
     clear g2' ho
     have bA : Below wr.heap.size wr (wr.alloc (.cells #[.int .i64 o.kind, .int .i64 o.on, .int .i64 o.arg] 61)) := xA1
     by_cases h1 : o.kind = 1
     ·have e1 : (o.kind != 1) = false := by simpa using h1
      have HG : Hid (onlyOp o = true) := xH1 (by unfold onlyOp; rw [decide_eq_true h1]; rfl)
      go_wp2
      go_roundw
      case rel => exact ⟨k + 1, by omega, by go_num, xH1 (fun j hj => by
       rcases Nat.lt_or_ge j k with h | h
       ·exact hok.out j h
       ·have : j = k := by omega
        subst this
        rw [← HO.out]; exact HG.out), hbk.alloc hbk.size _⟩
      case measure => simp [intOf]; omega
     ·have e1 : (o.kind != 1) = true := by simpa using h1
      by_cases h2 : o.kind = 2
      ·have e2 : (o.kind != 2) = false := by simpa using h2
       have HG : Hid (onlyOp o = true) := xH1 (by unfold onlyOp; rw [decide_eq_true h2]; simp)
       go_wp2
       go_roundw
       case rel => exact ⟨k + 1, by omega, by go_num, xH1 (fun j hj => by
       rcases Nat.lt_or_ge j k with h | h
       ·exact hok.out j h
       ·have : j = k := by omega
        subst this
        rw [← HO.out]; exact HG.out), hbk.alloc hbk.size _⟩
       case measure => simp [intOf]; omega
      ·have e2 : (o.kind != 2) = true := by simpa using h2
       by_cases h3 : o.kind = 3
       ·have e3 : (o.kind != 3) = false := by simpa using h3
        have HG : Hid (onlyOp o = true) := xH1 (by unfold onlyOp; rw [decide_eq_true h3]; simp)
        go_wp2
        go_roundw
        case rel => exact ⟨k + 1, by omega, by go_num, xH1 (fun j hj => by
       rcases Nat.lt_or_ge j k with h | h
       ·exact hok.out j h
       ·have : j = k := by omega
        subst this
        rw [← HO.out]; exact HG.out), hbk.alloc hbk.size _⟩
        case measure => simp [intOf]; omega
       ·have e3 : (o.kind != 3) = true := by simpa using h3
        have HB : Hid (onlySems p = false) := xH1 (by
         unfold onlySems
         rw [all2_bad (i := i) (k := k) (by have := lt.out; omega) (by have := HM.out; omega) (by rw [← HO.out]; unfold onlyOp; rw [decide_eq_false h1, decide_eq_false h2, decide_eq_false h3]; rfl)]; simp)
        go_wp2
        go_ret
        exact ⟨ret_bool (by rw [HB.out]), B3.trans (bA.mono B3.size)⟩
    ·have hkm : k = m := by omega
     subst hkm
     go_wp2
     go_roundw
     case rel => exact ⟨i + 1, by omega, by go_num, xH1 (fun j hj => by
      rcases Nat.lt_or_ge j i with h | h
      ·exact hall.out j h
      ·have : j = i := by omega
       subst this
       rw [← HM.out]; exact hok.out), BW⟩
     case measure => simp [intOf]; omega
  ·have hkm : i = v.nt := by omega
   subst hkm
   have HB : Hid (onlySems p = true) := xH1 (by unfold onlySems; rw [HV.out, all2_good (by rw [lt.out]; exact hall.out)]; rfl)
   go_wp2
   go_ret
   exact ⟨ret_bool (by rw [HB.out]), B2⟩
theorem specOnlySems_any (v : PV) (p : Pg) (w : World) (hr : RdP w v p) (hz : Small v p) :
  Calls Try.prog 25 #[.agg #[.slice v.s v.ns v.cs, .slice v.g v.ng v.cg, .slice v.b v.nb v.cb, .slice v.r v.nr v.cr, .slice v.t v.nt v.ct]] w fun e w' => e = .returned (.bool (onlySems p)) ∧ Below w.heap.size w w' := by
 have hs : v.ns ≤ maxLen ∧ v.ng ≤ maxLen ∧ v.nb ≤ maxLen ∧ v.nr ≤ maxLen := by
  obtain ⟨z1, z2, z3, z4, z5, z6⟩ := hz; unfold maxLen; omega
 have zz : Hid (v.ns ≤ maxLen ∧ v.ng ≤ maxLen ∧ v.nb ≤ maxLen ∧ v.nr ≤ maxLen) := xH1 hs
 have HZ := xH1 hz
 have z5 : v.nt ≤ 1048576 := hz.lt
 have Z6 := xH1 hz.inn
 have ls := xH1 hr.ls
 have lg := xH1 hr.lg
 have lb := xH1 hr.lb
 have lr := xH1 hr.lr
 have lt := xH1 hr.lt
 clear hz
 have B0 : Below w.heap.size w (w.alloc (.cells #[.slice v.s v.ns v.cs, .slice v.g v.ng v.cg, .slice v.b v.nb v.cb, .slice v.r v.nr v.cr, .slice v.t v.nt v.ct] 26)) := xA1
 have k0 : Blk (w.alloc (.cells #[.slice v.s v.ns v.cs, .slice v.g v.ng v.cg, .slice v.b v.nb v.cb, .slice v.r v.nr v.cr, .slice v.t v.nt v.ct] 26)) w.heap.size #[.slice v.s v.ns v.cs, .slice v.g v.ng v.cg, .slice v.b v.nb v.cb, .slice v.r v.nr v.cr, .slice v.t v.nt v.ct] 26 := Blk.new _ _ _
 have q0 : (w.alloc (.cells #[.slice v.s v.ns v.cs, .slice v.g v.ng v.cg, .slice v.b v.nb v.cb, .slice v.r v.nr v.cr, .slice v.t v.nt v.ct] 26)).cell? ⟨w.heap.size, 0, none⟩ = some (.slice v.s v.ns v.cs) := k0.cell 0 rfl
 have q1 : (w.alloc (.cells #[.slice v.s v.ns v.cs, .slice v.g v.ng v.cg, .slice v.b v.nb v.cb, .slice v.r v.nr v.cr, .slice v.t v.nt v.ct] 26)).cell? ⟨w.heap.size, 1, none⟩ = some (.slice v.g v.ng v.cg) := k0.cell 1 rfl
 have q2 : (w.alloc (.cells #[.slice v.s v.ns v.cs, .slice v.g v.ng v.cg, .slice v.b v.nb v.cb, .slice v.r v.nr v.cr, .slice v.t v.nt v.ct] 26)).cell? ⟨w.heap.size, 2, none⟩ = some (.slice v.b v.nb v.cb) := k0.cell 2 rfl
 have q3 : (w.alloc (.cells #[.slice v.s v.ns v.cs, .slice v.g v.ng v.cg, .slice v.b v.nb v.cb, .slice v.r v.nr v.cr, .slice v.t v.nt v.ct] 26)).cell? ⟨w.heap.size, 3, none⟩ = some (.slice v.r v.nr v.cr) := k0.cell 3 rfl
 have q4 : (w.alloc (.cells #[.slice v.s v.ns v.cs, .slice v.g v.ng v.cg, .slice v.b v.nb v.cb, .slice v.r v.nr v.cr, .slice v.t v.nt v.ct] 26)).cell? ⟨w.heap.size, 4, none⟩ = some (.slice v.t v.nt v.ct) := k0.cell 4 rfl
 clear k0
 rcases Bool.eq_false_or_eq_true (progValid p) with hv | hv
 rotate_left
 ·have HB : Hid (onlySems p = false) := xH1 (by unfold onlySems; rw [hv]; rfl)
  have HV := xH1 hv
  clear hv
  go_enter Try.func25, Try.ntmps25
  go_wp2
  obtain ⟨W0, hW0⟩ : ∃ W0 : World, W0 = (w.alloc (.cells #[.slice v.s v.ns v.cs, .slice v.g v.ng v.cg, .slice v.b v.nb v.cb, .slice v.r v.nr v.cr, .slice v.t v.nt v.ct] 26)) := ⟨_, rfl⟩
  rw [← hW0] at B0 q0 q1 q2 q3 q4 ⊢
  clear hW0
  go_loopw [3] (fun i wr => i = .int .i64 0 ∧ wr = W0) (fun i _ => 0)
  case atStart => exact ⟨rfl, rfl⟩
  case round =>
   obtain ⟨rfl, rfl⟩ := hrel
   by_cases h0 : 0 < v.nt
   ·have d0 : decide ((0 : Int) < v.nt) = true := decide_eq_true (by omega)
    go_wp2_with fail
    refine (specProgValid_any v p _ (hr.below B0) HZ.out).mono ?_
    rintro e w1 ⟨rfl, hb⟩
    rw [HV.out]
    have B1 := B0.trans (hb.mono B0.size)
    replace q0 := keepc hb q0
    replace q1 := keepc hb q1
    replace q2 := keepc hb q2
    replace q3 := keepc hb q3
    replace q4 := keepc hb q4
    go_wp2_with fail
    refine (specProgValid_any v p _ (hr.below B1) HZ.out).mono ?_
    rintro e w2 ⟨rfl, hb⟩
    rw [HV.out]
    go_wp2
    go_ret
    exact ⟨ret_bool (by rw [HB.out]), B1.trans (hb.mono B1.size)⟩
   ·have d0 : decide ((0 : Int) < v.nt) = false := decide_eq_false (by omega)
    go_wp2_with fail
    refine (specProgValid_any v p _ (hr.below B0) HZ.out).mono ?_
    rintro e w1 ⟨rfl, hb⟩
    rw [HV.out]
    go_wp2
    go_ret
    exact ⟨ret_bool (by rw [HB.out]), B0.trans (hb.mono B0.size)⟩
 have hln := (valid_threads hv).1
 have HVO : Hid (∀ i k, i < p.threads.length → k < (p.threads.getD i []).length → opValid p ((p.threads.getD i []).getD k noOp) = true) := xH1 (fun i k hi hk => valid_op hv hi hk)
 have HV := xH1 hv
 clear hv
 go_enter Try.func25, Try.ntmps25
 go_wp2
 obtain ⟨W0, hW0⟩ : ∃ W0 : World, W0 = (w.alloc (.cells #[.slice v.s v.ns v.cs, .slice v.g v.ng v.cg, .slice v.b v.nb v.cb, .slice v.r v.nr v.cr, .slice v.t v.nt v.ct] 26)) := ⟨_, rfl⟩
 rw [← hW0] at B0 q0 q1 q2 q3 q4 ⊢
 clear hW0
 obtain ⟨vs, hT⟩ := hr.rt
 obtain ⟨b1, o1, ea, g1'⟩ := (hT.below B0).thread (by omega)
 rw [ea] at q4
 have HRP : Hid (∀ w', RdP w' v p → RdP w' ⟨v.s, v.ns, v.cs, v.g, v.ng, v.cg, v.b, v.nb, v.cb, v.r, v.nr, v.cr, some ⟨b1, o1, none⟩, v.nt, v.ct⟩ p) := xH1 (by rw [← ea]; exact fun _ h => h)
 have G1 := xH1 g1'
 clear g1' ea hT
 go_loopw [3] (fun i wr => ∃ i' : Nat, i' ≤ v.nt ∧ i = .int .i64 i' ∧ Hid (∀ j, j < i' → ∀ k, k < (p.threads.getD j []).length → onlyOp ((p.threads.getD j []).getD k noOp) = true) ∧ Below W0.heap.size W0 wr) (fun i _ => v.nt - (intOf i).toNat)
 case atStart => exact ⟨0, by omega, rfl, xH1 (by omega), Below.refl _ _⟩
 case round =>
  obtain ⟨i, hi, rfl, hall, hb0⟩ := hrel
  have B2 : Below w.heap.size w wr := B0.trans (hb0.mono B0.size)
  have c0 := keepc hb0 q0
  have c1 := keepc hb0 q1
  have c2 := keepc hb0 q2
  have c3 := keepc hb0 q3
  have c4 := keepc hb0 q4
  by_cases hlt : i < v.nt
  ·have dlt : decide ((i : Int) < v.nt) = true := decide_eq_true (by omega)
   go_wp2_with fail
   refine (specProgValid_any ⟨v.s, v.ns, v.cs, v.g, v.ng, v.cg, v.b, v.nb, v.cb, v.r, v.nr, v.cr, some ⟨b1, o1, none⟩, v.nt, v.ct⟩ p _ (HRP.out _ (hr.below B2)) ⟨HZ.out.ls, HZ.out.lg, HZ.out.lb, HZ.out.lr, HZ.out.lt, HZ.out.inn⟩).mono ?_
   rintro e wo ⟨rfl, hb⟩
   rw [HV.out]
   replace hb0 := hb0.trans (hb.mono hb0.size)
   replace B2 := B2.trans (hb.mono B2.size)
   replace c0 := keepc hb c0
   replace c1 := keepc hb c1
   replace c2 := keepc hb c2
   replace c3 := keepc hb c3
   replace c4 := keepc hb c4
   clear hb wr dlt
   obtain ⟨a2, x2, g1, r2⟩ := G1.out i (by have := lt.out; omega)
   obtain ⟨m, hm⟩ : ∃ m, m = (p.threads.getD i []).length := ⟨_, rfl⟩
   rw [← hm] at g1
   replace g1 := keepc hb0 g1
   replace r2 := r2.below hb0
   have hmm := Z6.out i
   rw [← hm] at hmm
   have HM := xH1 hm
   clear hm
   go_wp2
   go_loopw [4] (fun j wk => ∃ k : Nat, k ≤ m ∧ j = .int .i64 k ∧ Hid (∀ j, j < k → onlyOp ((p.threads.getD i []).getD j noOp) = true) ∧ wk = wo) (fun j _ => m - (intOf j).toNat)
   case atStart => exact ⟨0, by omega, rfl, xH1 (by omega), rfl⟩
   case round =>
    obtain ⟨k, hk, rfl, hok, rfl⟩ := hrel
    by_cases hkl : k < m
    ·skip
     obtain ⟨b2, o2, ea2, g2'⟩ := r2.op (by have := HM.out; omega)
     obtain ⟨g2a, g2b, g2c⟩ := g2' k (by have := HM.out; omega)
     obtain ⟨o, ho⟩ : ∃ o, o = (p.threads.getD i []).getD k noOp := ⟨_, rfl⟩
     rw [← ho] at g2a g2b g2c
     replace g2a := g2a
     replace g2b := g2b
     replace g2c := g2c
     have HO := xH1 ho
     subst ea2
     clear g2' ho
     have h1 := (opValid_facts (HVO.out i k (by have := lt.out; omega) (by have := HM.out; omega))).1.1
     rw [← HO.out] at h1
     by_cases h3 : 3 < o.kind
     ·have d3 : decide (3 < o.kind) = true := decide_eq_true h3
      have HB : Hid (onlySems p = false) := xH1 (by
       unfold onlySems
       rw [all2_bad (i := i) (k := k) (by have := lt.out; omega) (by have := HM.out; omega) (by rw [← HO.out]; unfold onlyOp; rw [decide_eq_false (by omega), decide_eq_false (by omega), decide_eq_false (by omega)]; rfl)]; simp)
      go_wp2
      go_ret
      exact ⟨ret_bool (by rw [HB.out]), B2⟩
     ·have d3 : decide (3 < o.kind) = false := decide_eq_false h3
      have HG : Hid (onlyOp o = true) := xH1 (by
       unfold onlyOp
       have : o.kind = 1 ∨ o.kind = 2 ∨ o.kind = 3 := by omega
       rcases this with h | h | h <;> rw [h] <;> rfl)
      go_wp2
      go_roundw
      case rel => exact ⟨k + 1, by omega, by go_num, xH1 (fun j hj => by
       rcases Nat.lt_or_ge j k with h | h
       ·exact hok.out j h
       ·have : j = k := by omega
        subst this
        rw [← HO.out]; exact HG.out), trivial⟩
      case measure => simp [intOf]; omega
    ·have hkm : k = m := by omega
     subst hkm
     go_wp2
     go_roundw
     case rel => exact ⟨i + 1, by omega, by go_num, xH1 (fun j hj => by
      rcases Nat.lt_or_ge j i with h | h
      ·exact hall.out j h
      ·have : j = i := by omega
       subst this
       rw [← HM.out]; exact hok.out), hb0⟩
     case measure => simp [intOf]; omega
  ·have dlt : decide ((i : Int) < v.nt) = false := decide_eq_false (by omega)
   have hkm : i = v.nt := by omega
   subst hkm
   have HB : Hid (onlySems p = true) := xH1 (by unfold onlySems; rw [HV.out, all2_good (by rw [lt.out]; exact hall.out)]; rfl)
   go_wp2_with fail
   refine (specProgValid_any ⟨v.s, v.ns, v.cs, v.g, v.ng, v.cg, v.b, v.nb, v.cb, v.r, v.nr, v.cr, some ⟨b1, o1, none⟩, v.nt, v.ct⟩ p _ (HRP.out _ (hr.below B2)) ⟨HZ.out.ls, HZ.out.lg, HZ.out.lb, HZ.out.lr, HZ.out.lt, HZ.out.inn⟩).mono ?_
   rintro e we ⟨rfl, hb⟩
   rw [HV.out]
   go_wp2
   go_ret
   exact ⟨ret_bool (by rw [HB.out]), B2.trans (hb.mono B2.size)⟩

def sumAt (of : OpD → Int) (i : Nat) : List OpD → Int
 | [] => 0
 | o :: os => (if o.on = i then of o else 0) + sumAt of i os
def sumsAt (of : OpD → Int) (i : Nat) : List (List OpD) → Int
 | [] => 0
 | t :: ts => sumAt of i t + sumsAt of i ts
theorem sumAt_append (of : OpD → Int) (i : Nat) (a b : List OpD) : sumAt of i (a ++ b) = sumAt of i a + sumAt of i b := by
 induction a with
 | nil => simp [sumAt]
 | cons o os ih => simp only [List.cons_append, sumAt, ih]; omega
theorem sumsAt_append (of : OpD → Int) (i : Nat) (a b : List (List OpD)) : sumsAt of i (a ++ b) = sumsAt of i a + sumsAt of i b := by
 induction a with
 | nil => simp [sumsAt]
 | cons o os ih => simp only [List.cons_append, sumsAt, ih]; omega
theorem sumAt_take (of : OpD → Int) (i : Nat) (t : List OpD) (k : Nat) (hk : k < t.length) : sumAt of i (t.take (k + 1)) = sumAt of i (t.take k) + (if (t.getD k noOp).on = i then of (t.getD k noOp) else 0) := by
 have e : t.take (k + 1) = t.take k ++ [t.getD k noOp] := by rw [List.take_add_one, List.getElem?_eq_getElem hk]; simp [List.getD, hk]
 rw [e, sumAt_append]; simp [sumAt]
theorem sumAt_le (of : OpD → Int) (i : Nat) (t : List OpD) (h : ∀ o ∈ t, -9 ≤ of o ∧ of o ≤ 9) : -(9 * (t.length : Int)) ≤ sumAt of i t ∧ sumAt of i t ≤ 9 * (t.length : Int) := by
 induction t with
 | nil => simp [sumAt]
 | cons o os ih =>
  have h1 := h o (by simp)
  have h2 := ih (fun x hx => h x (by simp [hx]))
  simp only [sumAt, List.length_cons]
  split <;> omega
def tallyOf (start : List Int) (of : OpD → Int) (ts : List (List OpD)) : List Int := (List.range start.length).map fun i => start.getD i 0 + sumsAt of i ts
theorem tallyOf_len (start : List Int) (of : OpD → Int) (ts : List (List OpD)) : (tallyOf start of ts).length = start.length := by simp [tallyOf]
theorem tallyOf_get (start : List Int) (of : OpD → Int) (ts : List (List OpD)) (i : Nat) (hi : i < start.length) : (tallyOf start of ts).getD i 0 = start.getD i 0 + sumsAt of i ts := by
 simp [tallyOf, List.getD, hi]
theorem tallyOf_nil (start : List Int) (of : OpD → Int) : tallyOf start of [] = start := by
 apply List.ext_getElem (by simp [tallyOf])
 intro i h1 h2
 simp [tallyOf, sumsAt, List.getD, h2]
theorem tallyOf_start (start : List Int) (of : OpD → Int) (A : List (List OpD)) : tallyOf start of (A ++ [[]]) = tallyOf start of A := by
 unfold tallyOf
 apply List.map_congr_left
 intro i _
 rw [sumsAt_append]; simp [sumsAt, sumAt]
theorem tallyOf_step {start : List Int} {of : OpD → Int} {A : List (List OpD)} {t : List OpD} {k : Nat} (hk : k < t.length) {o : OpD} (ho : t.getD k noOp = o) (h0 : 0 ≤ o.on) (h1 : o.on < start.length) :
  tallyOf start of (A ++ [t.take (k + 1)]) = (tallyOf start of (A ++ [t.take k])).set o.on.toNat ((tallyOf start of (A ++ [t.take k])).getD o.on.toNat 0 + of o) := by
 have hn : o.on.toNat < start.length := by omega
 rw [tallyOf_get _ _ _ _ hn]
 apply List.ext_getElem (by simp [tallyOf])
 intro i hi1 hi2
 have hi : i < start.length := by simpa [tallyOf] using hi1
 simp only [tallyOf, List.getElem_map, List.getElem_range, List.getElem_set]
 rw [sumsAt_append, sumsAt_append, sumsAt_append]
 simp only [sumsAt]
 rw [sumAt_take of i t k hk, ho]
 by_cases e : o.on.toNat = i
 ·subst e
  rw [if_pos rfl, if_pos (by omega)]; omega
 ·rw [if_neg e, if_neg (by omega)]; omega
theorem tallyOf_skip {start : List Int} {of : OpD → Int} {A : List (List OpD)} {t : List OpD} {k : Nat} (hk : k < t.length) {o : OpD} (ho : t.getD k noOp = o) (h0 : of o = 0) :
  tallyOf start of (A ++ [t.take (k + 1)]) = tallyOf start of (A ++ [t.take k]) := by
 unfold tallyOf
 apply List.map_congr_left
 intro i _
 rw [sumsAt_append, sumsAt_append]
 simp only [sumsAt]
 rw [sumAt_take of i t k hk, ho, h0]; simp
theorem tallyOf_done (start : List Int) (of : OpD → Int) (ts : List (List OpD)) (i : Nat) (hi : i < ts.length) : tallyOf start of (ts.take i ++ [(ts.getD i []).take (ts.getD i []).length]) = tallyOf start of (ts.take (i + 1)) := by
 rw [List.take_length]
 congr 1
 rw [List.take_add_one, List.getElem?_eq_getElem hi]; simp [List.getD, hi]
theorem sumsAt_le (of : OpD → Int) (i : Nat) (ts : List (List OpD)) (n : Nat) (hn : ts.length ≤ n) (h : ∀ t ∈ ts, t.length ≤ 8 ∧ ∀ o ∈ t, -9 ≤ of o ∧ of o ≤ 9) : -(72 * (n : Int)) ≤ sumsAt of i ts ∧ sumsAt of i ts ≤ 72 * (n : Int) := by
 induction ts generalizing n with
 | nil => simp [sumsAt]; omega
 | cons t ts ih =>
  cases n with
  | zero => simp at hn
  | succ n =>
   have h1 := h t (by simp)
   have h2 := sumAt_le of i t h1.2
   have h3 := ih n (by simpa using hn) (fun x hx => h x (by simp [hx]))
   simp only [sumsAt]; omega
theorem tally_small {p : Pg} {start : List Int} {of : OpD → Int} (hv : progValid p = true) {i k j : Nat} (hi : i < p.threads.length) (hk : k ≤ (p.threads.getD i []).length) (hst : -9 ≤ start.getD j 0 ∧ start.getD j 0 ≤ 9) (hob : ∀ o, opValid p o = true → -9 ≤ of o ∧ of o ≤ 9) :
  -330 ≤ (tallyOf start of (p.threads.take i ++ [(p.threads.getD i []).take k])).getD j 0 ∧ (tallyOf start of (p.threads.take i ++ [(p.threads.getD i []).take k])).getD j 0 ≤ 330 := by
 by_cases hj : j < start.length
 ·rw [tallyOf_get _ _ _ _ hj]
  have h4 := (valid_threads hv).2
  have hx : ∀ t ∈ p.threads.take i ++ [(p.threads.getD i []).take k], t.length ≤ 8 ∧ ∀ o ∈ t, -9 ≤ of o ∧ of o ≤ 9 := by
   intro t ht
   have key : ∀ t0 ∈ p.threads, t0.length ≤ 8 ∧ ∀ o ∈ t0, -9 ≤ of o ∧ of o ≤ 9 := by
    intro t0 h0
    obtain ⟨q, hq, rfl⟩ := List.getElem_of_mem h0
    have e : p.threads.getD q [] = p.threads[q] := by simp [List.getD, hq]
    refine ⟨by rw [← e]; exact valid_len hv hq, fun o ho => ?_⟩
    obtain ⟨r, hr, rfl⟩ := List.getElem_of_mem ho
    have := valid_op hv hq (k := r) (by rw [e]; exact hr)
    rw [e] at this
    have e2 : (p.threads[q]).getD r noOp = (p.threads[q])[r] := by simp [List.getD, hr]
    rw [e2] at this
    exact hob _ this
   rcases xP1 ht with h | h
   ·exact key t (List.mem_of_mem_take h)
   ·obtain rfl : t = (p.threads.getD i []).take k := by simpa using h
    have e : p.threads.getD i [] = p.threads[i] := by simp [List.getD, hi]
    have := key (p.threads.getD i []) (by rw [e]; exact List.getElem_mem hi)
    exact ⟨by rw [List.length_take]; omega, fun o ho => this.2 o (List.mem_of_mem_take ho)⟩
  have := sumsAt_le of j _ 4 (by simp; omega) hx
  omega
 ·have : (tallyOf start of (p.threads.take i ++ [(p.threads.getD i []).take k])).getD j 0 = 0 := by
   simp [List.getD, tallyOf_len, Nat.le_of_not_lt hj]
  rw [this]; omega
def ofGroupsLeft (o : OpD) : Int := if o.kind = 5 then o.arg else 0
def ofLettersOf (o : OpD) : Int := if o.kind = 8 then 1 else if o.kind = 9 then -1 else 0
theorem own_int {w : World} {B n c G : Nat} {xs : List Int} (h : w.ownsRow B 3 1 (.slice (some ⟨G, 0, none⟩) n c) n (ints xs)) (j : Nat) {x : Int} (hj : j < n) (hx : x = xs.getD j 0) (hl : xs.length = n) : w.cell? ⟨G, j, none⟩ = some (.int .i64 x) := by
 rw [h.cellAt j (by omega), hx]; simp [ints, List.getD, show j < xs.length by omega]
theorem ofLettersOf_any (o : OpD) (w : World) :
  Calls Try.prog 50 #[.agg #[.int .i64 o.kind, .int .i64 o.on, .int .i64 o.arg]] w fun e w' => e = .returned (.int .i64 (ofLettersOf o)) ∧ Below w.heap.size w w' := by
 have b0 : Below w.heap.size w (w.alloc (.cells #[.int .i64 o.kind, .int .i64 o.on, .int .i64 o.arg] 61)) := xA1
 by_cases h0 : o.kind = 8
 ·have HR : Hid (ofLettersOf o = 1) := xH1 (by unfold ofLettersOf; rw [if_pos h0])
  have t0 : (o.kind == 8) = true := by simpa using h0
  clear h0
  go_enter Try.func50, Try.ntmps50
  go_wp2
  go_ret
  exact ⟨ret_int HR.out.symm, b0⟩
 have t0 : (o.kind == 8) = false := by simpa using h0
 by_cases h1 : o.kind = 9
 ·have HR : Hid (ofLettersOf o = -1) := xH1 (by unfold ofLettersOf; rw [if_neg h0, if_pos h1])
  have t1 : (o.kind == 9) = true := by simpa using h1
  clear h1
  go_enter Try.func50, Try.ntmps50
  go_wp2
  go_ret
  exact ⟨ret_int HR.out.symm, b0⟩
 have t1 : (o.kind == 9) = false := by simpa using h1
 have HR : Hid (ofLettersOf o = 0) := xH1 (by unfold ofLettersOf; rw [if_neg h0, if_neg h1])
 clear h0 h1
 go_enter Try.func50, Try.ntmps50
 go_wp2
 go_ret
 exact ⟨ret_int HR.out.symm, b0⟩
theorem implTally_no (g : Nat) (v : PV) (p : Pg) (a : Option Addr) (n c : Nat) (w : World) (hr : RdP w v p) (hz : Small v p) (hv : progValid p = false) :
  Calls Try.prog 37 #[.agg #[.slice v.s v.ns v.cs, .slice v.g v.ng v.cg, .slice v.b v.nb v.cb, .slice v.r v.nr v.cr, .slice v.t v.nt v.ct], .slice a n c, .func (.func g) #[] #[]] w fun e w' => e = .returned (.slice none 0 0) ∧ Below w.heap.size w w' := by
 have hs : v.ns ≤ maxLen ∧ v.ng ≤ maxLen ∧ v.nb ≤ maxLen ∧ v.nr ≤ maxLen := by
  obtain ⟨z1, z2, z3, z4, z5, z6⟩ := hz; unfold maxLen; omega
 have zz : Hid (v.ns ≤ maxLen ∧ v.ng ≤ maxLen ∧ v.nb ≤ maxLen ∧ v.nr ≤ maxLen) := xH1 hs
 have HZ := xH1 hz
 have z5 : v.nt ≤ 1048576 := hz.lt
 have Z6 := xH1 hz.inn
 have ls := xH1 hr.ls
 have lg := xH1 hr.lg
 have lb := xH1 hr.lb
 have lr := xH1 hr.lr
 have lt := xH1 hr.lt
 clear hz
 have B0 : Below w.heap.size w (w.alloc (.cells #[.slice v.s v.ns v.cs, .slice v.g v.ng v.cg, .slice v.b v.nb v.cb, .slice v.r v.nr v.cr, .slice v.t v.nt v.ct] 26)) := xA1
 have k0 : Blk (w.alloc (.cells #[.slice v.s v.ns v.cs, .slice v.g v.ng v.cg, .slice v.b v.nb v.cb, .slice v.r v.nr v.cr, .slice v.t v.nt v.ct] 26)) w.heap.size #[.slice v.s v.ns v.cs, .slice v.g v.ng v.cg, .slice v.b v.nb v.cb, .slice v.r v.nr v.cr, .slice v.t v.nt v.ct] 26 := Blk.new _ _ _
 have q0 : (w.alloc (.cells #[.slice v.s v.ns v.cs, .slice v.g v.ng v.cg, .slice v.b v.nb v.cb, .slice v.r v.nr v.cr, .slice v.t v.nt v.ct] 26)).cell? ⟨w.heap.size, 0, none⟩ = some (.slice v.s v.ns v.cs) := k0.cell 0 rfl
 have q1 : (w.alloc (.cells #[.slice v.s v.ns v.cs, .slice v.g v.ng v.cg, .slice v.b v.nb v.cb, .slice v.r v.nr v.cr, .slice v.t v.nt v.ct] 26)).cell? ⟨w.heap.size, 1, none⟩ = some (.slice v.g v.ng v.cg) := k0.cell 1 rfl
 have q2 : (w.alloc (.cells #[.slice v.s v.ns v.cs, .slice v.g v.ng v.cg, .slice v.b v.nb v.cb, .slice v.r v.nr v.cr, .slice v.t v.nt v.ct] 26)).cell? ⟨w.heap.size, 2, none⟩ = some (.slice v.b v.nb v.cb) := k0.cell 2 rfl
 have q3 : (w.alloc (.cells #[.slice v.s v.ns v.cs, .slice v.g v.ng v.cg, .slice v.b v.nb v.cb, .slice v.r v.nr v.cr, .slice v.t v.nt v.ct] 26)).cell? ⟨w.heap.size, 3, none⟩ = some (.slice v.r v.nr v.cr) := k0.cell 3 rfl
 have q4 : (w.alloc (.cells #[.slice v.s v.ns v.cs, .slice v.g v.ng v.cg, .slice v.b v.nb v.cb, .slice v.r v.nr v.cr, .slice v.t v.nt v.ct] 26)).cell? ⟨w.heap.size, 4, none⟩ = some (.slice v.t v.nt v.ct) := k0.cell 4 rfl
 clear k0
 have HV := xH1 hv
 clear hv
 go_enter Try.func37, Try.ntmps37
 go_wp2_with fail
 refine (implProgValid_any v p _ (hr.below B0) HZ.out).mono ?_
 rintro e w1 ⟨rfl, hb⟩
 rw [HV.out]
 replace q0 := keepc hb q0
 replace q1 := keepc hb q1
 replace q2 := keepc hb q2
 replace q3 := keepc hb q3
 replace q4 := keepc hb q4
 replace B0 := B0.trans (hb.mono B0.size)
 clear hb
 go_wp2
 go_ret
 exact ⟨rfl, B0⟩
theorem implTally_yes (g : Nat) (of : OpD → Int) (v : PV) (p : Pg) (a : Option Addr) (n c : Nat) (start : List Int) (w : World) (eg : ∀ args w, (callFunc g args).run Try.prog w = .ok (.enter g args) w) (hr : RdP w v p) (hz : Small v p) (hv : progValid p = true)
  (hl : start.length = n) (hn : n ≤ 1048576) (ha : Rd w a (ints start)) (hst : ∀ j, -9 ≤ start.getD j 0 ∧ start.getD j 0 ≤ 9)
  (hof : ∀ o w, Calls Try.prog g #[.agg #[.int .i64 o.kind, .int .i64 o.on, .int .i64 o.arg]] w fun e w' => e = .returned (.int .i64 (of o)) ∧ Below w.heap.size w w') (hob : ∀ o, opValid p o = true → (-9 ≤ of o ∧ of o ≤ 9) ∧ (of o ≠ 0 → 0 ≤ o.on ∧ o.on < n)) :
  Calls Try.prog 37 #[.agg #[.slice v.s v.ns v.cs, .slice v.g v.ng v.cg, .slice v.b v.nb v.cb, .slice v.r v.nr v.cr, .slice v.t v.nt v.ct], .slice a n c, .func (.func g) #[] #[]] w fun e w' => ∃ a' c', e = .returned (.slice a' n c') ∧ w'.ownsRow w.heap.size 3 1 (.slice a' n c') n (ints (tallyOf start of p.threads)) ∧ Below w.heap.size w w' := by
 have hs : v.ns ≤ maxLen ∧ v.ng ≤ maxLen ∧ v.nb ≤ maxLen ∧ v.nr ≤ maxLen := by
  obtain ⟨z1, z2, z3, z4, z5, z6⟩ := hz; unfold maxLen; omega
 have zz : Hid (v.ns ≤ maxLen ∧ v.ng ≤ maxLen ∧ v.nb ≤ maxLen ∧ v.nr ≤ maxLen) := xH1 hs
 have HZ := xH1 hz
 have z5 : v.nt ≤ 1048576 := hz.lt
 have Z6 := xH1 hz.inn
 have ls := xH1 hr.ls
 have lg := xH1 hr.lg
 have lb := xH1 hr.lb
 have lr := xH1 hr.lr
 have lt := xH1 hr.lt
 clear hz
 have B0 : Below w.heap.size w (w.alloc (.cells #[.slice v.s v.ns v.cs, .slice v.g v.ng v.cg, .slice v.b v.nb v.cb, .slice v.r v.nr v.cr, .slice v.t v.nt v.ct] 26)) := xA1
 have k0 : Blk (w.alloc (.cells #[.slice v.s v.ns v.cs, .slice v.g v.ng v.cg, .slice v.b v.nb v.cb, .slice v.r v.nr v.cr, .slice v.t v.nt v.ct] 26)) w.heap.size #[.slice v.s v.ns v.cs, .slice v.g v.ng v.cg, .slice v.b v.nb v.cb, .slice v.r v.nr v.cr, .slice v.t v.nt v.ct] 26 := Blk.new _ _ _
 have q0 : (w.alloc (.cells #[.slice v.s v.ns v.cs, .slice v.g v.ng v.cg, .slice v.b v.nb v.cb, .slice v.r v.nr v.cr, .slice v.t v.nt v.ct] 26)).cell? ⟨w.heap.size, 0, none⟩ = some (.slice v.s v.ns v.cs) := k0.cell 0 rfl
 have q1 : (w.alloc (.cells #[.slice v.s v.ns v.cs, .slice v.g v.ng v.cg, .slice v.b v.nb v.cb, .slice v.r v.nr v.cr, .slice v.t v.nt v.ct] 26)).cell? ⟨w.heap.size, 1, none⟩ = some (.slice v.g v.ng v.cg) := k0.cell 1 rfl
 have q2 : (w.alloc (.cells #[.slice v.s v.ns v.cs, .slice v.g v.ng v.cg, .slice v.b v.nb v.cb, .slice v.r v.nr v.cr, .slice v.t v.nt v.ct] 26)).cell? ⟨w.heap.size, 2, none⟩ = some (.slice v.b v.nb v.cb) := k0.cell 2 rfl
 have q3 : (w.alloc (.cells #[.slice v.s v.ns v.cs, .slice v.g v.ng v.cg, .slice v.b v.nb v.cb, .slice v.r v.nr v.cr, .slice v.t v.nt v.ct] 26)).cell? ⟨w.heap.size, 3, none⟩ = some (.slice v.r v.nr v.cr) := k0.cell 3 rfl
 have q4 : (w.alloc (.cells #[.slice v.s v.ns v.cs, .slice v.g v.ng v.cg, .slice v.b v.nb v.cb, .slice v.r v.nr v.cr, .slice v.t v.nt v.ct] 26)).cell? ⟨w.heap.size, 4, none⟩ = some (.slice v.t v.nt v.ct) := k0.cell 4 rfl
 clear k0
 have hln := (valid_threads hv).1
 have HVO : Hid (∀ i k, i < p.threads.length → k < (p.threads.getD i []).length → opValid p ((p.threads.getD i []).getD k noOp) = true) := xH1 (fun i k hi hk => valid_op hv hi hk)
 have HBD : Hid (∀ i k j, i < p.threads.length → k ≤ (p.threads.getD i []).length → -330 ≤ (tallyOf start of (p.threads.take i ++ [(p.threads.getD i []).take k])).getD j 0 ∧ (tallyOf start of (p.threads.take i ++ [(p.threads.getD i []).take k])).getD j 0 ≤ 330) := xH1 (fun i k j hi hk => tally_small hv hi hk (hst j) (fun o ho => (hob o ho).1))
 have HSL := xH1 hl
 have HOB := xH1 hob
 have HV := xH1 hv
 clear hv hst hl hob
 go_enter Try.func37, Try.ntmps37
 replace ha := ha.below B0
 go_wp2_with fail
 refine (implProgValid_any v p _ (hr.below B0) HZ.out).mono ?_
 rintro e w1 ⟨rfl, hb⟩
 rw [HV.out]
 replace q0 := keepc hb q0
 replace q1 := keepc hb q1
 replace q2 := keepc hb q2
 replace q3 := keepc hb q3
 replace q4 := keepc hb q4
 replace B0 := B0.trans (hb.mono B0.size)
 replace ha := ha.below hb
 clear hb
 go_wp2_with fail
 refine (implCloneInts_any a n c start _ HSL.out (by omega) ha).mono ?_
 rintro e w2 ⟨a0, kc, rfl, hown, hb⟩
 have r0 := xH1 (owns_row hown)
 have d4 := keepc hb q4
 go_wp2
 obtain ⟨vs, hT⟩ := hr.rt
 obtain ⟨b1, o1, ea, g1'⟩ := (hT.below B0).thread (by omega)
 rw [ea] at q4 d4
 have HRP : Hid (∀ w', RdP w' v p → RdP w' ⟨v.s, v.ns, v.cs, v.g, v.ng, v.cg, v.b, v.nb, v.cb, v.r, v.nr, v.cr, some ⟨b1, o1, none⟩, v.nt, v.ct⟩ p) := xH1 (by rw [← ea]; exact fun _ h => h)
 have G1 := xH1 g1'
 rw [ea]
 clear g1' ea hT
 go_loopw [21] (fun i wr => ∃ i' : Nat, i' ≤ v.nt ∧ i = .int .i64 i' ∧ wr.ownsRow w1.heap.size 3 1 (.slice a0 n kc) n (ints (tallyOf start of (p.threads.take i'))) ∧ Below w1.heap.size w1 wr) (fun i _ => v.nt - (intOf i).toNat)
 case atStart => exact ⟨0, by omega, rfl, by rw [List.take_zero, tallyOf_nil]; exact hown, hb⟩
 case round =>
  obtain ⟨i, hi, rfl, hownI, hb0⟩ := hrel
  by_cases hlt : i < v.nt
  ·obtain ⟨wo, hwo⟩ : ∃ wo : World, wo = wr := ⟨_, rfl⟩
   rw [← hwo] at hb0 hownI ⊢
   clear hwo wr
   have c0 := keepc hb0 q0
   have c4 := keepc hb0 q4
   obtain ⟨a2, x2, g1, r2⟩ := G1.out i (by have := lt.out; omega)
   obtain ⟨m, hm⟩ : ∃ m, m = (p.threads.getD i []).length := ⟨_, rfl⟩
   rw [← hm] at g1
   replace g1 := keepc hb0 g1
   have hmm := Z6.out i
   rw [← hm] at hmm
   have HM := xH1 hm
   clear hm
   go_wp2
   go_loopw [27] (fun j wk => ∃ k : Nat, k ≤ m ∧ j = .int .i64 k ∧ wk.ownsRow w1.heap.size 3 1 (.slice a0 n kc) n (ints (tallyOf start of (p.threads.take i ++ [(p.threads.getD i []).take k]))) ∧ Below w1.heap.size w1 wk) (fun j _ => m - (intOf j).toNat)
   case atStart => exact ⟨0, by omega, rfl, by rw [List.take_zero, tallyOf_start]; exact hownI, hb0⟩
   case round =>
    obtain ⟨k, hk, rfl, hownK, hbk⟩ := hrel
    by_cases hkl : k < m
    ·obtain ⟨b2, o2, ea2, g2'⟩ := r2.op (by have := HM.out; omega)
     obtain ⟨g2a, g2b, g2c⟩ := g2' k (by have := HM.out; omega)
     obtain ⟨o, ho⟩ : ∃ o, o = (p.threads.getD i []).getD k noOp := ⟨_, rfl⟩
     rw [← ho] at g2a g2b g2c
     replace g2a := keepc hbk g2a
     replace g2b := keepc hbk g2b
     replace g2c := keepc hbk g2c
     have HO := xH1 ho
     subst ea2
     have hop := HVO.out i k (by have := lt.out; omega) (by have := HM.out; omega)
     rw [← ho] at hop
     clear g2' ho
     obtain ⟨⟨f1, f2⟩, f3⟩ := HOB.out o hop
     have F3 := xH1 f3
     have bA : Below wr.heap.size wr (wr.alloc (.cells #[.int .i64 o.kind, .int .i64 o.on, .int .i64 o.arg] 61)) := xA1
     have kA : Blk (wr.alloc (.cells #[.int .i64 o.kind, .int .i64 o.on, .int .i64 o.arg] 61)) wr.heap.size #[.int .i64 o.kind, .int .i64 o.on, .int .i64 o.arg] 61 := Blk.new _ _ _
     have e1 : (wr.alloc (.cells #[.int .i64 o.kind, .int .i64 o.on, .int .i64 o.arg] 61)).cell? ⟨wr.heap.size, 1, none⟩ = some (.int .i64 o.on) := kA.cell 1 rfl
     replace hownK := owns_below hownK bA
     have hbA := hbk.trans (bA.mono hbk.size)
     clear hop kA bA f3
     by_cases hz : of o = 0
     ·have tz : (of o != 0) = false := by simpa using hz
      have HS : Hid (tallyOf start of (p.threads.take i ++ [(p.threads.getD i []).take (k + 1)]) = tallyOf start of (p.threads.take i ++ [(p.threads.getD i []).take k])) := xH1 (tallyOf_skip (by have := HM.out; omega) HO.out.symm hz)
      clear hz e1
      go_wp2_with (go_at_fn g; refine (hof o _).mono ?_; rintro e w3 ⟨rfl, hb3⟩)
      go_roundw
      case rel => exact ⟨k + 1, by omega, by go_num, by rw [HS.out]; exact owns_below hownK hb3, hbA.trans (hb3.mono hbA.size)⟩
      case measure => simp [intOf]; omega
     ·have tz : (of o != 0) = true := by simpa using hz
      obtain ⟨on0, on1⟩ := F3.out hz
      obtain ⟨x, hx⟩ : ∃ x, x = (tallyOf start of (p.threads.take i ++ [(p.threads.getD i []).take k])).getD o.on.toNat 0 := ⟨_, rfl⟩
      have hxb := HBD.out i k o.on.toNat (by have := lt.out; omega) (by have := HM.out; omega)
      rw [← hx] at hxb
      obtain ⟨hx1, hx2⟩ := hxb
      have HS : Hid (tallyOf start of (p.threads.take i ++ [(p.threads.getD i []).take (k + 1)]) = (tallyOf start of (p.threads.take i ++ [(p.threads.getD i []).take k])).set o.on.toNat (x + of o)) := xH1 (by rw [hx]; exact tallyOf_step (by have := HM.out; omega) HO.out.symm on0 (by rw [HSL.out]; exact on1))
      have HL : Hid ((tallyOf start of (p.threads.take i ++ [(p.threads.getD i []).take k])).length = n) := xH1 (by rw [tallyOf_len, HSL.out])
      obtain ⟨L, hL⟩ : ∃ L, L = tallyOf start of (p.threads.take i ++ [(p.threads.getD i []).take k]) := ⟨_, rfl⟩
      rw [← hL] at hx hownK
      have HX := xH1 hx
      have HLL := xH1 hL
      obtain ⟨G, ea0, hG1, hG2⟩ := owns_at hownK (by omega)
      subst ea0
      clear hz hx hL
      go_wp2_with (go_at_fn g; refine (hof o _).mono ?_; rintro e w3 ⟨rfl, hb3⟩; replace e1 := keepc hb3 e1; replace hownK := owns_below hownK hb3; have hcell := own_int hownK o.on.toNat (by omega) HX.out (by rw [HLL.out]; exact HL.out); have hfz := hownK.frozenAt o.on.toNat; have R := owns_store hownK o.on.toNat (.int .i64 (x + of o)) (cs' := ints (L.set o.on.toNat (x + of o))) (by simp [ints, List.map_set]); have HR := xH1 R; clear R hownK)
      go_roundw
      case rel => exact ⟨k + 1, by omega, by go_num, by rw [HS.out, ← HLL.out]; exact HR.out.1, (hbA.trans (hb3.mono hbA.size)).trans (below_of_grown HR.out.2 (hbA.trans (hb3.mono hbA.size)).size (by rintro g hg; cases hg; exact hG1))⟩
      case measure => simp [intOf]; omega
    ·have hkm : k = m := by omega
     subst hkm
     have HS : Hid (tallyOf start of (p.threads.take i ++ [(p.threads.getD i []).take k]) = tallyOf start of (p.threads.take (i + 1))) := xH1 (by rw [HM.out]; exact tallyOf_done start of p.threads i (by have := lt.out; omega))
     go_wp2
     go_roundw
     case rel => exact ⟨i + 1, by omega, by go_num, by rw [← HS.out]; exact hownK, hbk⟩
     case measure => simp [intOf]; omega
  ·have hkm : i = v.nt := by omega
   subst hkm
   have HS : Hid (p.threads.take v.nt = p.threads) := xH1 (by rw [← lt.out, List.take_length])
   have hs1 := B0.size
   go_wp2
   go_ret
   exact ⟨_, _, rfl, by rw [HS.out] at hownI; exact owns_mono hownI hs1, B0.trans (hb0.mono B0.size)⟩
instance : DecidableEq OpD := fun a b => decidable_of_iff (a.kind = b.kind ∧ a.on = b.on ∧ a.arg = b.arg) (by cases a; cases b; simp)
instance : DecidableEq Pg := fun a b => decidable_of_iff (a.sems = b.sems ∧ a.groups = b.groups ∧ a.barriers = b.barriers ∧ a.rooms = b.rooms ∧ a.threads = b.threads) (by cases a; cases b; simp)
theorem ext_getD_of {α : Type} (d : α) {xs ys : List α} (hl : xs.length = ys.length) (h : ∀ j, j < xs.length → xs.getD j d = ys.getD j d) : xs = ys := by
 refine List.ext_getElem hl fun j h1 h2 => ?_
 have := h j h1
 simpa [List.getD, h1, h2] using this
theorem slicesInts_n (a1 a2 : Option Addr) (n c1 c2 : Nat) (xs ys : List Int) (w : World) (hn : n ≤ 1099511627776) (hl : xs.length = n) (hl2 : ys.length = n) (h1 : Rd w a1 (ints xs)) (h2 : Rd w a2 (ints ys)) :
  Calls Try.prog 54 #[.slice a1 n c1, .slice a2 n c2] w fun e w' => e = .returned (.bool (decide (xs = ys))) ∧ ∃ n, w' = w.drewN n := by
 have HL := xH1 hl
 have HL2 := xH1 hl2
 clear hl hl2
 go_enter Try.func54, Try.ntmps54
 go_wp2
 go_loopw [5, 13] (fun _ i wr => ∃ k : Nat, k ≤ n ∧ i = .int .i64 k ∧ Hid (∀ j, j < k → xs.getD j 0 = ys.getD j 0) ∧ ∃ d, wr = w.drewN d) (fun _ i _ => n - (intOf i).toNat)
 case atStart => exact ⟨0, by omega, rfl, xH1 (by omega), 0, rfl⟩
 case round =>
  obtain ⟨k, hk, rfl, hall, d, rfl⟩ := hrel
  by_cases hlt : k < n
  ·obtain ⟨b1, o1, rfl, g1'⟩ := h1.int (by have := HL.out; omega)
   obtain ⟨b2, o2, rfl, g2'⟩ := h2.int (by have := HL2.out; omega)
   have g1a := g1' k (by have := HL.out; omega)
   have g2a := g2' k (by have := HL2.out; omega)
   obtain ⟨x, hx⟩ : ∃ x, x = xs.getD k 0 := ⟨_, rfl⟩
   obtain ⟨y, hy⟩ : ∃ y, y = ys.getD k 0 := ⟨_, rfl⟩
   rw [← hx] at g1a
   rw [← hy] at g2a
   have HX := xH1 hx
   have HY := xH1 hy
   clear g1' g2' hx hy
   go_wp2
   go_quiet (fail)
   go_wp2
   ·go_ret
    refine ⟨?_, d + nq, World.drewN_drewN _ _ _⟩
    have hne : (x != y) = true := by assumption
    refine ret_bool (decide_eq_false ?_).symm
    intro e
    rw [HX.out, HY.out, e] at hne
    simp at hne
   ·have hne : (x != y) = false := by assumption
    have he : x = y := by simpa using hne
    refine ⟨⟨k + 1, by omega, by go_num, xH1 ?_, d + nq, rfl⟩, by simp [intOf]; omega⟩
    intro j hj
    by_cases hjk : j = k
    ·rw [hjk, ← HX.out, ← HY.out, he]
    ·exact hall.out j (by omega)
  ·have hkm : k = n := by omega
   subst hkm
   go_wp2
   go_ret
   exact ⟨ret_bool (decide_eq_true (ext_getD_of 0 (by rw [HL.out, HL2.out]) (fun j hj => hall.out j (by rw [HL.out] at hj; exact hj)))).symm, d, rfl⟩
theorem slicesInts_no (a1 a2 : Option Addr) (n m c1 c2 : Nat) (w : World) (hnm : n ≠ m) :
  Calls Try.prog 54 #[.slice a1 n c1, .slice a2 m c2] w fun e w' => e = .returned (.bool false) ∧ ∃ n, w' = w.drewN n := by
 have hd : ((n : Int) != (m : Int)) = true := by simp; omega
 clear hnm
 go_enter Try.func54, Try.ntmps54
 go_wp2
 go_ret
 exact ⟨rfl, 0, rfl⟩
theorem slicesInts_any (a1 a2 : Option Addr) (n m c1 c2 : Nat) (xs ys : List Int) (w : World) (hn : n ≤ 1099511627776) (hl : xs.length = n) (hl2 : ys.length = m) (h1 : Rd w a1 (ints xs)) (h2 : Rd w a2 (ints ys)) :
  Calls Try.prog 54 #[.slice a1 n c1, .slice a2 m c2] w fun e w' => e = .returned (.bool (decide (xs = ys))) ∧ ∃ n, w' = w.drewN n := by
 by_cases hnm : n = m
 ·subst hnm
  exact slicesInts_n a1 a2 n c1 c2 xs ys w hn hl hl2 h1 h2
 ·rw [decide_eq_false (fun e => hnm (by rw [← hl, ← hl2, e]))]
  exact slicesInts_no a1 a2 n m c1 c2 w hnm



def groupsLeft (p : Pg) : List Int := if progValid p = true then tallyOf p.groups ofGroupsLeft p.threads else []
def lettersOf (p : Pg) : List Int := if progValid p = true then tallyOf (List.replicate p.rooms.length 0) ofLettersOf p.threads else []
theorem rep_getD (n j : Nat) : -9 ≤ (List.replicate n (0 : Int)).getD j 0 ∧ (List.replicate n (0 : Int)).getD j 0 ≤ 9 := by
 have : (List.replicate n (0 : Int)).getD j 0 = 0 := by simp only [List.getD, List.getElem?_replicate]; split <;> rfl
 rw [this]; omega
theorem valid_on {p : Pg} {o : OpD} (ho : opValid p o = true) : 0 ≤ o.on ∧ o.on < shared p o.kind := (opValid_facts ho).2.1
theorem shared8 {p : Pg} {k : Int} (h : k = 8 ∨ k = 9) : shared p k = p.rooms.length := by unfold shared; rw [if_neg (by omega), if_neg (by omega), if_neg (by omega), if_neg (by omega), if_neg (by omega)]
theorem obLettersOf {p : Pg} (o : OpD) (ho : opValid p o = true) : (-9 ≤ ofLettersOf o ∧ ofLettersOf o ≤ 9) ∧ (ofLettersOf o ≠ 0 → 0 ≤ o.on ∧ o.on < p.rooms.length) := by
 unfold ofLettersOf
 by_cases h8 : o.kind = 8
 ·rw [if_pos h8]
  exact ⟨by omega, fun _ => by rw [← shared8 (.inl h8)]; exact valid_on ho⟩
 ·rw [if_neg h8]
  by_cases h9 : o.kind = 9
  ·rw [if_pos h9]
   exact ⟨by omega, fun _ => by rw [← shared8 (.inr h9)]; exact valid_on ho⟩
  ·rw [if_neg h9]; simp
theorem implLettersOf_any (n : Nat) (v : PV) (p : Pg) (w : World) (hn : (lettersOf p).length = n) (hr : RdP w v p) (hz : Small v p) :
  Calls Try.prog 21 #[.agg #[.slice v.s v.ns v.cs, .slice v.g v.ng v.cg, .slice v.b v.nb v.cb, .slice v.r v.nr v.cr, .slice v.t v.nt v.ct]] w fun e w' => ∃ a' c', e = .returned (.slice a' n c') ∧ w'.ownsRow w.heap.size 3 1 (.slice a' n c') n (ints (lettersOf p)) ∧ Below w.heap.size w w' := by
 have hs : v.ns ≤ maxLen ∧ v.ng ≤ maxLen ∧ v.nb ≤ maxLen ∧ v.nr ≤ maxLen := by
  obtain ⟨z1, z2, z3, z4, z5, z6⟩ := hz; unfold maxLen; omega
 have zz : Hid (v.ns ≤ maxLen ∧ v.ng ≤ maxLen ∧ v.nb ≤ maxLen ∧ v.nr ≤ maxLen) := xH1 hs
 have HZ := xH1 hz
 have z5 : v.nt ≤ 1048576 := hz.lt
 have Z6 := xH1 hz.inn
 have ls := xH1 hr.ls
 have lg := xH1 hr.lg
 have lb := xH1 hr.lb
 have lr := xH1 hr.lr
 have lt := xH1 hr.lt
 clear hz
 have B0 : Below w.heap.size w (w.alloc (.cells #[.slice v.s v.ns v.cs, .slice v.g v.ng v.cg, .slice v.b v.nb v.cb, .slice v.r v.nr v.cr, .slice v.t v.nt v.ct] 26)) := xA1
 have k0 : Blk (w.alloc (.cells #[.slice v.s v.ns v.cs, .slice v.g v.ng v.cg, .slice v.b v.nb v.cb, .slice v.r v.nr v.cr, .slice v.t v.nt v.ct] 26)) w.heap.size #[.slice v.s v.ns v.cs, .slice v.g v.ng v.cg, .slice v.b v.nb v.cb, .slice v.r v.nr v.cr, .slice v.t v.nt v.ct] 26 := Blk.new _ _ _
 have q0 : (w.alloc (.cells #[.slice v.s v.ns v.cs, .slice v.g v.ng v.cg, .slice v.b v.nb v.cb, .slice v.r v.nr v.cr, .slice v.t v.nt v.ct] 26)).cell? ⟨w.heap.size, 0, none⟩ = some (.slice v.s v.ns v.cs) := k0.cell 0 rfl
 have q1 : (w.alloc (.cells #[.slice v.s v.ns v.cs, .slice v.g v.ng v.cg, .slice v.b v.nb v.cb, .slice v.r v.nr v.cr, .slice v.t v.nt v.ct] 26)).cell? ⟨w.heap.size, 1, none⟩ = some (.slice v.g v.ng v.cg) := k0.cell 1 rfl
 have q2 : (w.alloc (.cells #[.slice v.s v.ns v.cs, .slice v.g v.ng v.cg, .slice v.b v.nb v.cb, .slice v.r v.nr v.cr, .slice v.t v.nt v.ct] 26)).cell? ⟨w.heap.size, 2, none⟩ = some (.slice v.b v.nb v.cb) := k0.cell 2 rfl
 have q3 : (w.alloc (.cells #[.slice v.s v.ns v.cs, .slice v.g v.ng v.cg, .slice v.b v.nb v.cb, .slice v.r v.nr v.cr, .slice v.t v.nt v.ct] 26)).cell? ⟨w.heap.size, 3, none⟩ = some (.slice v.r v.nr v.cr) := k0.cell 3 rfl
 have q4 : (w.alloc (.cells #[.slice v.s v.ns v.cs, .slice v.g v.ng v.cg, .slice v.b v.nb v.cb, .slice v.r v.nr v.cr, .slice v.t v.nt v.ct] 26)).cell? ⟨w.heap.size, 4, none⟩ = some (.slice v.t v.nt v.ct) := k0.cell 4 rfl
 clear k0
 obtain ⟨i0, hi0, hz0, hz1, hz2⟩ := info_parts info_int
 have hnb : v.nr ≤ 1048576 := HZ.out.lr
 have hmk : ∀ w', (Instr.makeSlice 23 (.int .i64 (v.nr : Nat)) (.int .i64 (v.nr : Nat))).run Try.prog w' = .ok (.slice (some ⟨w'.heap.size, 0, none⟩) v.nr v.nr) (w'.alloc (.cells (madeCells #[.int .i64 0] v.nr) 3)) := fun w' => by
  have := run_make (P := Try.prog) w' 23 3 i0 (.int .i64 0) Try.underlying23 hi0 hz0 .i64 .i64 (v.nr : Nat) (v.nr : Nat) (by omega) (by omega) (by rw [hz2]; omega) (by omega)
  rw [hz1, show (Value.int .i64 0).cells = #[.int .i64 0] from rfl] at this
  simpa using this
 have hmd : (madeCells #[.int .i64 0] v.nr).toList = ints (List.replicate v.nr 0) := by rw [toList_madeCells_one]; simp [ints]
 have HMD := xH1 hmd
 clear hmd
 rcases Bool.eq_false_or_eq_true (progValid p) with hv | hv
 ·have HB : Hid (lettersOf p = tallyOf (List.replicate v.nr 0) ofLettersOf p.threads) := xH1 (by unfold lettersOf; rw [if_pos hv, hr.lr])
  obtain rfl : n = v.nr := by rw [← hn, HB.out, tallyOf_len, List.length_replicate]
  rw [HB.out]
  clear hn
  have HV := xH1 hv
  clear hv
  go_enter Try.func21, Try.ntmps21
  go_wp2
  obtain ⟨W0, hW0⟩ : ∃ W0 : World, W0 = (w.alloc (.cells #[.slice v.s v.ns v.cs, .slice v.g v.ng v.cg, .slice v.b v.nb v.cb, .slice v.r v.nr v.cr, .slice v.t v.nt v.ct] 26)) := ⟨_, rfl⟩
  rw [← hW0] at B0 q0 q1 q2 q3 q4 ⊢
  clear hW0
  have hS : ∀ w', Below W0.heap.size W0 w' → (w'.cell? ⟨w.heap.size, 0, none⟩ = some (.slice v.s v.ns v.cs) ∧ w'.cell? ⟨w.heap.size, 1, none⟩ = some (.slice v.g v.ng v.cg) ∧ w'.cell? ⟨w.heap.size, 2, none⟩ = some (.slice v.b v.nb v.cb) ∧ w'.cell? ⟨w.heap.size, 3, none⟩ = some (.slice v.r v.nr v.cr) ∧ w'.cell? ⟨w.heap.size, 4, none⟩ = some (.slice v.t v.nt v.ct)) ∧ Below W0.heap.size W0 w' := fun w' hb => ⟨⟨keepc hb q0, keepc hb q1, keepc hb q2, keepc hb q3, keepc hb q4⟩, hb⟩
  have hs1 := B0.size
  go_region_held3 (fun w' => (w'.cell? ⟨w.heap.size, 0, none⟩ = some (.slice v.s v.ns v.cs) ∧ w'.cell? ⟨w.heap.size, 1, none⟩ = some (.slice v.g v.ng v.cg) ∧ w'.cell? ⟨w.heap.size, 2, none⟩ = some (.slice v.b v.nb v.cb) ∧ w'.cell? ⟨w.heap.size, 3, none⟩ = some (.slice v.r v.nr v.cr) ∧ w'.cell? ⟨w.heap.size, 4, none⟩ = some (.slice v.t v.nt v.ct)) ∧ Below W0.heap.size W0 w') (first | exact hS _ (xB1.drew) | exact hS _ ((xB1.drew).alloc (by simp) _) | exact hS _ (keepb (by assumption) (by assumption))) (first | (go_at_call 37; refine (implTally_yes _ ofLettersOf v p _ v.nr v.nr (List.replicate v.nr 0) _ (enters_of Try.func50 (by kernel_rfl) rfl) (hr.below (B0.trans ((And.right (by assumption : _ ∧ Below W0.heap.size W0 _)).mono B0.size))) HZ.out HV.out List.length_replicate HZ.out.lr (by have h := Rd.of_owns (World.ownsRow_lit (base := 0) (e := 3) (size := 1) W0.drew (madeCells #[.int .i64 0] v.nr) v.nr (Nat.zero_le _) (by unfold maxLen; omega) (by simp [madeCells])); rw [HMD.out] at h; exact h) (rep_getD _) (fun o w => ofLettersOf_any o w) (fun o ho => by have := obLettersOf (p := p) o ho; rw [lr.out] at this; exact this)).mono ?_; rintro e w1 ⟨a1, c1, rfl, hown, hb⟩))
  rename_i hSw
  have hb2 := hSw.2
  clear hSw hS hb
  go_wp2
  go_ret
  exact ⟨a1, c1, rfl, owns_mono hown (by simp; omega), B0.trans (hb2.mono hs1)⟩
 ·have HB : Hid (lettersOf p = []) := xH1 (by unfold lettersOf; rw [if_neg (by rw [hv]; simp)])
  rw [HB.out] at hn ⊢
  obtain rfl : n = 0 := hn.symm
  have HV := xH1 hv
  clear hv
  go_enter Try.func21, Try.ntmps21
  go_wp2
  obtain ⟨W0, hW0⟩ : ∃ W0 : World, W0 = (w.alloc (.cells #[.slice v.s v.ns v.cs, .slice v.g v.ng v.cg, .slice v.b v.nb v.cb, .slice v.r v.nr v.cr, .slice v.t v.nt v.ct] 26)) := ⟨_, rfl⟩
  rw [← hW0] at B0 q0 q1 q2 q3 q4 ⊢
  clear hW0
  have hS : ∀ w', Below W0.heap.size W0 w' → (w'.cell? ⟨w.heap.size, 0, none⟩ = some (.slice v.s v.ns v.cs) ∧ w'.cell? ⟨w.heap.size, 1, none⟩ = some (.slice v.g v.ng v.cg) ∧ w'.cell? ⟨w.heap.size, 2, none⟩ = some (.slice v.b v.nb v.cb) ∧ w'.cell? ⟨w.heap.size, 3, none⟩ = some (.slice v.r v.nr v.cr) ∧ w'.cell? ⟨w.heap.size, 4, none⟩ = some (.slice v.t v.nt v.ct)) ∧ Below W0.heap.size W0 w' := fun w' hb => ⟨⟨keepc hb q0, keepc hb q1, keepc hb q2, keepc hb q3, keepc hb q4⟩, hb⟩
  go_region_held3 (fun w' => (w'.cell? ⟨w.heap.size, 0, none⟩ = some (.slice v.s v.ns v.cs) ∧ w'.cell? ⟨w.heap.size, 1, none⟩ = some (.slice v.g v.ng v.cg) ∧ w'.cell? ⟨w.heap.size, 2, none⟩ = some (.slice v.b v.nb v.cb) ∧ w'.cell? ⟨w.heap.size, 3, none⟩ = some (.slice v.r v.nr v.cr) ∧ w'.cell? ⟨w.heap.size, 4, none⟩ = some (.slice v.t v.nt v.ct)) ∧ Below W0.heap.size W0 w') (first | exact hS _ (xB1.drew) | exact hS _ ((xB1.drew).alloc (by simp) _) | exact hS _ (keepb (by assumption) (by assumption))) (first | (go_at_call 37; refine (implTally_no _ v p _ _ _ _ (hr.below (B0.trans ((And.right (by assumption : _ ∧ Below W0.heap.size W0 _)).mono B0.size))) HZ.out HV.out).mono ?_; rintro e w1 ⟨rfl, hb⟩))
  rename_i w9 hSw
  have hb := hSw.2
  clear hSw hS
  go_wp2
  go_ret
  exact ⟨none, 0, rfl, World.ownsRow_nil _ _ _ _, B0.trans (hb.mono B0.size)⟩






def chFirst (s : StD) (tr : List Int) : Option Int := if (readyOf s).length = 0 ∨ 100 ≤ tr.length then none else some ((readyOf s).getD 0 0)
theorem chFirst_mem : ∀ s tr t, chFirst s tr = some t → t ∈ readyOf s := fun s tr t h => by
 unfold chFirst at h
 split at h
 ·cases h
 ·next hn =>
  obtain rfl := Option.some.inj h
  exact head_mem fun e => hn (.inl e)
theorem chFirst_100 : ∀ s tr, 100 ≤ tr.length → chFirst s tr = none := fun _ _ h => if_pos (.inr h)
theorem runfirst_chooses (w : World) (p : Pg) : Chooses w 53 #[] p chFirst := by
 intro v L s a b n c m d tr W hb hs hr hl h100 hrd hm hm8 hrl
 show Calls Try.prog 53 #[.agg #[.slice v.pl.a v.pl.n v.pl.c, .slice v.st.a v.st.n v.st.c, .slice v.se.a v.se.n v.se.c, .slice v.on.a v.on.n v.on.c, .slice v.gr.a v.gr.n v.gr.c, .slice v.ba.a v.ba.n v.ba.c, .slice v.ch.a v.ch.n v.ch.c, .slice v.sa.a v.sa.n v.sa.c, .int .i64 v.fl, .slice a n c], .slice b m d] W _
 obtain ⟨l, el⟩ : ∃ l, l = readyOf s := ⟨_, rfl⟩
 unfold chFirst
 rw [← el] at hm hrl ⊢
 have HL := xH1 hl
 have HM := xH1 hm
 have HRD := xH1 hrd
 have HRL := xH1 hrl
 clear hb hs hr hl hrd hm hrl el
 have F := (Fr.start W).alloc (rC v a n c) 39
 have cr := F.c10 0 rfl
 have HB := xH1 F.bel
 go_enter Try.func53, Try.ntmps53
 by_cases h0 : m = 0
 ·subst h0
  rw [if_pos (.inl HM.out)]
  clear F
  go_wp2
  exact bodyPost_ret (v := .tuple #[.int .i64 0, .bool false]) (by simp [results, Try.results53, go_sem]) rfl ⟨rfl, HB.out⟩
 by_cases h1 : n = 100
 ·subst h1
  rw [if_pos (.inr (by rw [HL.out]; omega))]
  clear F
  go_wp2
  exact bodyPost_ret (v := .tuple #[.int .i64 0, .bool false]) (by simp [results, Try.results53, go_sem]) rfl ⟨rfl, HB.out⟩
 rw [if_neg (by have := HM.out; have := HL.out; omega)]
 have t1 : ((m : Int) == 0) = false := by simpa using h0
 have t2 : ((n : Int) == 100) = false := by simp; omega
 obtain ⟨b1, o1, rfl, g'⟩ := (HRL.out.below HB.out).int (by have := HM.out; omega)
 have g : World.cell? _ ⟨b1, o1, none⟩ = some (.int .i64 (l.getD 0 0)) := g' 0 (by have := HM.out; omega)
 clear F g'
 have m0 : ((0 : Int) < (m : Int)) := by omega
 go_wp2
 exact bodyPost_ret (v := .tuple #[.int .i64 (l.getD 0 0), .bool true]) (by simp [results, Try.results53, go_sem]) rfl ⟨rfl, HB.out⟩
theorem implRunFirst_ok (u : PV) (p : Pg) (w : World) (hp : RdP w u p) (hv : progValid p = true) :
  Calls Try.prog 27 #[.agg #[.slice u.s u.ns u.cs, .slice u.g u.ng u.cg, .slice u.b u.nb u.cb, .slice u.r u.nr u.cr, .slice u.t u.nt u.ct]] w fun e w' => Below w.heap.size w w' ∧ ∃ (s : StD) (tr : List Int) (v : StV) (L : StL) (a : Option Addr) (c : Nat), walkD p chFirst 101 (startOf p) [] = some (s, tr) ∧ e = .returned (.tuple #[.agg #[.slice v.pl.a v.pl.n v.pl.c, .slice v.st.a v.st.n v.st.c, .slice v.se.a v.se.n v.se.c, .slice v.on.a v.on.n v.on.c, .slice v.gr.a v.gr.n v.gr.c, .slice v.ba.a v.ba.n v.ba.c, .slice v.ch.a v.ch.n v.ch.c, .slice v.sa.a v.sa.n v.sa.c, .int .i64 v.fl, .slice a tr.length c], .bool true]) ∧ RunO w.heap.size w' v L a c s tr ∧ Run p s := by
 have HP := xH1 hp
 have HV := xH1 hv
 clear hp hv
 have F := ((Fr.start w).alloc (pvC u) 26).alloc z10 39
 simp only [World.size_alloc] at F
 have cp := F.c5 1 rfl
 go_enter Try.func27, Try.ntmps27
 go_wp2_with fail
 refine (implWalk_ok u p _ 53 #[] chFirst (HP.out.below F.bel) HV.out (fun _ _ => rfl) (runfirst_chooses _ p) chFirst_100).mono ?_
 rintro e w1 ⟨hb, ⟨hn, -⟩ | ⟨s, tr, v, L, a, c, hwk, rfl, ho, hr⟩⟩
 ·obtain ⟨r, hr⟩ := walkD_some (p := p) chFirst_mem chFirst_100 101 (startOf p) [] rfl (by simp)
  rw [hn] at hr
  cases hr
 have HWK := xH1 hwk
 have HR := xH1 hr
 have HN := xH1 (NewB.lower ho.nw F.bel.size)
 have G := Sf.gainR F hb ho.tr ho.st ho.nw
 clear hb hwk ho hr F cp
 have cz := G.fr.c10 1 rfl
 have G2 := G.set10 1 rfl (.slice v.pl.a v.pl.n v.pl.c) (.slice v.st.a v.st.n v.st.c) (.slice v.se.a v.se.n v.se.c) (.slice v.on.a v.on.n v.on.c) (.slice v.gr.a v.gr.n v.gr.c) (.slice v.ba.a v.ba.n v.ba.c) (.slice v.ch.a v.ch.n v.ch.c) (.slice v.sa.a v.sa.n v.sa.c) (.int .i64 v.fl) (.slice a tr.length c)
 go_wp2
 exact bodyPost_ret (v := .tuple #[.agg #[.slice v.pl.a v.pl.n v.pl.c, .slice v.st.a v.st.n v.st.c, .slice v.se.a v.se.n v.se.c, .slice v.on.a v.on.n v.on.c, .slice v.gr.a v.gr.n v.gr.c, .slice v.ba.a v.ba.n v.ba.c, .slice v.ch.a v.ch.n v.ch.c, .slice v.sa.a v.sa.n v.sa.c, .int .i64 v.fl, .slice a tr.length c], .bool true]) (by simp [results, Try.results27, go_sem, G2.fr.c10 1 rfl]) rfl ⟨G2.bel, s, tr, v, L, a, c, HWK.out, rfl, ⟨G2.st.sub fun q hq => xQ1 (.inl hq), HN.out, G2.fr.own 0 rfl⟩, HR.out⟩
theorem implOnceSame0_any (a b : Option Addr) (c d : Nat) (w : World) :
  Calls Try.prog 28 #[.agg #[.int .i64 0, .int .i64 0, .int .i64 0, .slice a 0 c], .agg #[.int .i64 0, .int .i64 0, .int .i64 0, .slice b 0 d]] w fun e w' => e = .returned (.bool true) ∧ Below w.heap.size w w' := by
 have F := ((Fr.start w).alloc #[.int .i64 0, .int .i64 0, .int .i64 0, .slice a 0 c] 55).alloc #[.int .i64 0, .int .i64 0, .int .i64 0, .slice b 0 d] 55
 simp only [World.size_alloc] at F
 have cs := F.c4 0 rfl
 have cp := F.c4 1 rfl
 go_enter Try.func28, Try.ntmps28
 go_wp2_with fail
 refine (slicesInts_any a b 0 0 c d [] [] _ (by decide) rfl rfl (.inl rfl) (.inl rfl)).mono ?_
 rintro e w1 ⟨rfl, dd, rfl⟩
 have HB := xH1 (F.drewN dd).bel
 clear F cs cp
 go_wp2
 go_ret
 exact ⟨by simp, HB.out⟩
variable {p : Pg} {s : StD} {t : Int} {ch : StD → List Int → Option Int} {tr : List Int}
theorem At.mem (h : At p s t) : opAt p s t ∈ p.threads.getD t.toNat [] := by
 have h1 := h.lt
 have h0 := h.ge
 unfold opsOf at h1
 have hk : (s.places.getD t.toNat 0).toNat < (p.threads.getD t.toNat []).length := by omega
 have e : opAt p s t = (p.threads.getD t.toNat [])[(s.places.getD t.toNat 0).toNat] := by
  unfold opAt opsOf
  rw [List.getD_eq_getElem?_getD (l := p.threads.getD t.toNat []), List.getElem?_eq_getElem hk]
  rfl
 rw [e]
 exact List.getElem_mem hk
theorem all2_mem {q : OpD → Bool} (h : all2 p q = true) {i : Nat} {o : OpD} (ho : o ∈ p.threads.getD i []) : q o = true := by
 unfold all2 at h
 rw [List.all_eq_true] at h
 by_cases hi : i < p.threads.length
 ·rw [List.getD_eq_getElem?_getD, List.getElem?_eq_getElem hi] at ho
  have := h _ (List.getElem_mem hi)
  rw [List.all_eq_true] at this
  exact this o ho
 ·rw [List.getD_eq_getElem?_getD, List.getElem?_eq_none (by omega)] at ho
  cases ho
theorem only_kind (h : onlySems p = true) (ht : At p s t) : (opAt p s t).kind = 1 ∨ (opAt p s t).kind = 2 ∨ (opAt p s t).kind = 3 := by
 unfold onlySems at h
 have h1 := all2_mem (by simpa using (Bool.and_eq_true_iff.1 h).2) ht.mem
 unfold onlyOp at h1
 simp only [Bool.or_eq_true, decide_eq_true_eq] at h1
 omega
theorem run_onces (hv : progValid p = true) (hw : walkD p ch 101 (startOf p) [] = some (s, tr)) (h : onlySems p = true) : s.onces = List.replicate 3 noOnce :=
 run_inv (I := fun s => s.onces = List.replicate 3 noOnce) hv hw rfl fun s t hr ht I => by
  obtain ⟨s1, l, m, hE, -, -, ho, -⟩ := view_all hr.fits ht
  have hk := only_kind h (ht.at hr.fits)
  rw [hE.on, ho (by omega)]
  exact I
theorem l10Prog_any (R : Nat) (a : Option Addr) (n c : Nat) (bs : List Int) (pos : Int) (w : World) (h : Rdr w R a n c bs pos) (hp : pos ≤ 1099511600000) :
  Calls Try.prog 84 #[.pointer (some ⟨R, 0, none⟩)] w fun e w' => ∃ (v : PV) (vs : List Value) (p : Pg) (pos' : Int), e = .returned (.agg #[.slice v.s v.ns v.cs, .slice v.g v.ng v.cg, .slice v.b v.nb v.cb, .slice v.r v.nr v.cr, .slice v.t v.nt v.ct]) ∧ OwnP w' v vs p.cells ∧ (∀ q ∈ fpP v vs, w.heap.size ≤ q) ∧ Few p 9 ∧ Rdr w' R a n c bs pos' ∧ pos' ≤ pos + 100 ∧ w.grownBy w' (some R) := by
 have hRw := h.lt
 have bR : Below w.heap.size w (w.alloc (.cells #[.slice none 0 0, .slice none 0 0, .slice none 0 0, .slice none 0 0, .slice none 0 0] 26)) := xA1
 have kR : Blk (w.alloc (.cells #[.slice none 0 0, .slice none 0 0, .slice none 0 0, .slice none 0 0, .slice none 0 0] 26)) w.heap.size #[.slice none 0 0, .slice none 0 0, .slice none 0 0, .slice none 0 0, .slice none 0 0] 26 := Blk.new _ _ _
 have h0 := h.below bR
 have G0 := grown_of_below bR (some R)
 have sR : (w.alloc (.cells #[.slice none 0 0, .slice none 0 0, .slice none 0 0, .slice none 0 0, .slice none 0 0] 26)).heap.size = w.heap.size + 1 := by simp
 clear bR h
 go_enter Try.func84, Try.ntmps84
 go_wp2_with fail
 refine (num_new R a n c bs pos 2 [1, 2] _ h0 (by omega) rfl (by omega) (by omega) _ (by simp) _ rfl).mono ?_
 rintro e w1 ⟨A0, rfl, hA0, h1, g1, s1⟩
 rw [sR] at s1
 have kR1 := kR.grown g1 (by simp; omega)
 have HG1 := xH1 (grown_trans G0 g1)
 clear kR g1 G0 h0 hA0 sR
 go_wp2_with fail
 refine (num_new R a n c bs (pos + 1) 2 [1, 3] w1 h1 (by omega) rfl (by omega) (by omega) _ (by simp) _ rfl).mono ?_
 rintro e w3 ⟨A1, rfl, hA1, h3, g3, s3⟩
 have kR3 := kR1.grown g3 (by simp; omega)
 have HG3 := xH1 (grown_trans HG1.out g3)
 have b4 : Below w3.heap.size w3 (w3.alloc (.cells #[.int .i64 A0, .int .i64 1, .int .i64 A1] 3)) := xA1
 have o4 := owns_of_blk (B := w1.heap.size) (Blk.new w3 #[.int .i64 A0, .int .i64 1, .int .i64 A1] 3) (by omega) (sz := 1) (m := 3) rfl (by decide)
 obtain ⟨W4, hW4⟩ : ∃ W4, W4 = w3.alloc (.cells #[.int .i64 A0, .int .i64 1, .int .i64 A1] 3) := ⟨_, rfl⟩
 have s4 : W4.heap.size = w3.heap.size + 1 := by rw [hW4]; simp
 rw [← hW4] at b4 o4
 obtain ⟨W5, hW5⟩ : ∃ W5, W5 = W4.alloc (.cells #[.slice (some ⟨w3.heap.size, 0, none⟩) 3 3, .slice none 0 0, .slice none 0 0, .slice none 0 0, .slice none 0 0] 26) := ⟨_, rfl⟩
 have b5 : Below W4.heap.size W4 W5 := by rw [hW5]; exact xA1
 have kB : Blk W5 (w3.heap.size + 1) #[.slice (some ⟨w3.heap.size, 0, none⟩) 3 3, .slice none 0 0, .slice none 0 0, .slice none 0 0, .slice none 0 0] 26 := by rw [hW5, ← s4]; exact Blk.new _ _ _
 have s5 : W5.heap.size = w3.heap.size + 2 := by rw [hW5]; simp; omega
 have e0 : ∀ W : World, W.ownsRow w1.heap.size 3 1 (.slice none 0 0) 0 (ints []) := fun W => ⟨by simp [ints], .inl ⟨rfl, rfl⟩⟩
 have HC : Hid (CopyAt W5 w1.heap.size (w3.heap.size + 1) ⟨some ⟨w3.heap.size, 0, none⟩, 3, 3, none, 0, 0, none, 0, 0, none, 0, 0, none, 0, 0⟩ [] ⟨[A0, 1, A1], [], [], [], []⟩ 0) := xH1 (CopyAt.four kB (owns_below o4 b5) (e0 _) (e0 _) (e0 _))
 have HR5 := xH1 ((kR3.below b4).below b5)
 have HD5 := xH1 ((h3.below b4).below b5)
 have HG5 := xH1 (grown_trans (grown_trans HG3.out (grown_of_below b4 _)) (grown_of_below b5 _))
 clear h1 g3 kR1 kR3 h3 b4 b5 o4 kB e0 hA1
 go_wp2_with fail
 rw [← hW4, ← hW5]
 have s5' : w3.heap.size + 2 ≤ W5.heap.size := by omega
 have s1' : w.heap.size + 1 ≤ w1.heap.size := s1
 clear s4 s5 hW4 hW5
 go_loopw [4] (fun vi wr => ∃ (j : Nat) (v : PV) (vs : List Value) (p : Pg) (pos' : Int), vi = .int .i64 j ∧ j ≤ 2 ∧ p.threads.length = j ∧ pos' ≤ pos + 2 + 4 * p.threads.length ∧ Hid (CopyAt wr w1.heap.size (w3.heap.size + 1) v vs p p.threads.length) ∧ Hid (ShortP p p.threads.length) ∧ Hid (Rdr wr R a n c bs pos') ∧ Hid (Blk wr w.heap.size #[.slice none 0 0, .slice none 0 0, .slice none 0 0, .slice none 0 0, .slice none 0 0] 26) ∧ Hid (w.grownBy wr (some R)) ∧ w3.heap.size + 2 ≤ wr.heap.size) (fun vi _ => 2 - (intOf vi).toNat)
 case atStart => exact ⟨0, _, _, ⟨[A0, 1, A1], [], [], [], []⟩, pos + 1 + 1, rfl, by omega, rfl, by simp; omega, HC, xH1 ⟨by simp, by simp, by simp, by simp, by simp, by simp⟩, HD5, HR5, HG5, s5'⟩
 case round =>
  obtain ⟨wo, rfl⟩ : ∃ x, x = wr := ⟨_, rfl⟩
  obtain ⟨j, v, vs, p, pos', rfl, hj2, hpj, hpos, HC, HS, HD, HR, HG, hS⟩ := hrel
  have HPJ := xH1 hpj
  have hpos2 : pos' ≤ pos + 2 + 4 * j := by rw [← hpj]; exact hpos
  clear hpj hpos
  by_cases hj : j < 2
  ·have bE : Below wo.heap.size wo (wo.alloc (.cells #[] 61)) := xA1
   have hown := owns_empty wo 61 3
   have HDi := xH1 (HD.out.below bE)
   have HWi := xH1 (grown_of_below bE (some R))
   have sE : (wo.alloc (.cells #[] 61)).heap.size = wo.heap.size + 1 := by simp
   have hSi : wo.heap.size ≤ (wo.alloc (.cells #[] 61)).heap.size := by omega
   clear bE sE
   go_wp2_with fail
   refine (pick_some R a n c bs (pos') 3 _ HDi.out (by omega) (by omega)).mono ?_
   rintro e wp1 ⟨X, rfl, hX, hd, g, _⟩
   have hSi' := g.size
   have hSj : wo.heap.size ≤ wp1.heap.size := by omega
   replace hown := owns_grown hown g (fun k e1 e2 => by cases e2; have := owns_row hown _ e1; omega)
   replace HDi := xH1 hd
   replace HWi := xH1 (grown_trans HWi.out g)
   clear hd g hSi hSi'
   have hSi := hSj
   clear hSj
   go_wp2_with fail
   refine (pick_some R a n c bs (pos' + 1) 3 _ HDi.out (by omega) (by omega)).mono ?_
   rintro e wp2 ⟨Y, rfl, hY, hd, g, _⟩
   have hSi' := g.size
   have hSj : wo.heap.size ≤ wp2.heap.size := by omega
   replace hown := owns_grown hown g (fun k e1 e2 => by cases e2; have := owns_row hown _ e1; omega)
   replace HDi := xH1 hd
   replace HWi := xH1 (grown_trans HWi.out g)
   clear hd g hSi hSi'
   have hSi := hSj
   clear hSj
   have ONE : Hid (∀ u ∈ ([.int .i64 2, .int .i64 (X : Int), .int .i64 1] : List Value), u.oneCell' = true) := xH1 (by intro u hu; simp only [List.mem_cons, List.not_mem_nil, or_false] at hu; rcases hu with rfl | rfl | rfl <;> rfl)
   go_wp2_with (at_builtin; refine wpList_append_sl (m := 1) (cm := 1) (news := [.int .i64 2, .int .i64 (X : Int), .int .i64 1]) rfl (.tmp 25) (.tmp 28) 59 rfl Try.underlying59 info_op rfl (by decide) rfl hown rfl rfl rfl ONE.out (by omega) (by decide) hSi ?_; intro a1q c1q wa3 hown2 hgr; have HOW := xH1 hown; clear hown)
   have hrow : ∀ k, rowOf (some ⟨wo.heap.size, 0, none⟩) = some k → wo.heap.size ≤ k := fun k hk => (owns_row HOW.out k hk).1
   have hSi' := hgr.size
   have hSj : wo.heap.size ≤ wa3.heap.size := by omega
   replace HDi := xH1 (HDi.out.gr hgr (fun k hk => by have := hrow k hk; omega))
   replace HWi := xH1 (grown_new HWi.out hgr (fun k hk => hrow k hk))
   have hown : wa3.ownsRow wo.heap.size 61 3 (.slice a1q 1 c1q) 1 (opsV ([⟨2, (X : Int), 1⟩])) := by simpa [opsV, opv] using hown2
   clear ONE hown2 hgr HOW hrow hSi hSi'
   have hSi := hSj
   clear hSj
   go_wp2_with fail
   refine (pick_some R a n c bs (pos' + 1 + 1) 3 _ HDi.out (by omega) (by omega)).mono ?_
   rintro e wp4 ⟨Z, rfl, hZ, hd, g, _⟩
   have hSi' := g.size
   have hSj : wo.heap.size ≤ wp4.heap.size := by omega
   replace hown := owns_grown hown g (fun k e1 e2 => by cases e2; have := owns_row hown _ e1; omega)
   replace HDi := xH1 hd
   replace HWi := xH1 (grown_trans HWi.out g)
   clear hd g hSi hSi'
   have hSi := hSj
   clear hSj
   by_cases hz : 0 < Z
   ·have tz : decide ((0 : Int) < (Z : Int)) = true := decide_eq_true (by omega)
    have ONE : Hid (∀ u ∈ ([.int .i64 2, .int .i64 (Y : Int), .int .i64 1, .int .i64 3, .int .i64 (Y : Int), .int .i64 1] : List Value), u.oneCell' = true) := xH1 (by intro u hu; simp only [List.mem_cons, List.not_mem_nil, or_false] at hu; rcases hu with rfl | rfl | rfl | rfl | rfl | rfl <;> rfl)
    go_wp2_with (at_builtin; refine wpList_append_sl (m := 2) (cm := 2) (news := [.int .i64 2, .int .i64 (Y : Int), .int .i64 1, .int .i64 3, .int .i64 (Y : Int), .int .i64 1]) rfl (.tmp 33) (.tmp 38) 59 rfl Try.underlying59 info_op rfl (by decide) rfl hown rfl rfl rfl ONE.out (by omega) (by decide) hSi ?_; intro a2q c2q wa5 hown2 hgr; have HOW := xH1 hown; clear hown)
    have hrow : ∀ k, rowOf (a1q) = some k → wo.heap.size ≤ k := fun k hk => (owns_row HOW.out k hk).1
    have hSi' := hgr.size
    have hSj : wo.heap.size ≤ wa5.heap.size := by omega
    replace HDi := xH1 (HDi.out.gr hgr (fun k hk => by have := hrow k hk; omega))
    replace HWi := xH1 (grown_new HWi.out hgr (fun k hk => hrow k hk))
    have hown : wa5.ownsRow wo.heap.size 61 3 (.slice a2q 3 c2q) 3 (opsV ([⟨2, (X : Int), 1⟩] ++ [⟨2, (Y : Int), 1⟩, ⟨3, (Y : Int), 1⟩])) := by simpa [opsV, opv] using hown2
    clear ONE hown2 hgr HOW hrow hSi hSi'
    have hSi := hSj
    clear hSj
    go_wp2_with fail
    refine (pick_some R a n c bs (pos' + 1 + 1 + 1) 6 _ HDi.out (by omega) (by omega)).mono ?_
    rintro e wp6 ⟨U, rfl, hU, hd, g, _⟩
    have hSi' := g.size
    have hSj : wo.heap.size ≤ wp6.heap.size := by omega
    replace hown := owns_grown hown g (fun k e1 e2 => by cases e2; have := owns_row hown _ e1; omega)
    replace HDi := xH1 hd
    replace HWi := xH1 (grown_trans HWi.out g)
    clear hd g hSi hSi'
    have hSi := hSj
    clear hSj
    by_cases hu : 0 < U
    ·have tu : decide ((0 : Int) < (U : Int)) = true := decide_eq_true (by omega)
     have ONE : Hid (∀ u ∈ ([.int .i64 3, .int .i64 (X : Int), .int .i64 1] : List Value), u.oneCell' = true) := xH1 (by intro u hu; simp only [List.mem_cons, List.not_mem_nil, or_false] at hu; rcases hu with rfl | rfl | rfl <;> rfl)
     go_upto_region 14 with (at_builtin; refine wpList_append_sl (m := 1) (cm := 1) (news := [.int .i64 3, .int .i64 (X : Int), .int .i64 1]) rfl (.tmp 48) (.tmp 51) 59 rfl Try.underlying59 info_op rfl (by decide) rfl hown rfl rfl rfl ONE.out (by omega) (by decide) hSi ?_; intro a3q c3q wa7 hown2 hgr; have HOW := xH1 hown; clear hown)
     have hrow : ∀ k, rowOf (a2q) = some k → wo.heap.size ≤ k := fun k hk => (owns_row HOW.out k hk).1
     have hSi' := hgr.size
     have hSj : wo.heap.size ≤ wa7.heap.size := by omega
     replace HDi := xH1 (HDi.out.gr hgr (fun k hk => by have := hrow k hk; omega))
     replace HWi := xH1 (grown_new HWi.out hgr (fun k hk => hrow k hk))
     have hown : wa7.ownsRow wo.heap.size 61 3 (.slice a3q 4 c3q) 4 (opsV ([⟨2, (X : Int), 1⟩] ++ [⟨2, (Y : Int), 1⟩, ⟨3, (Y : Int), 1⟩] ++ [⟨3, (X : Int), 1⟩])) := by simpa [opsV, opv] using hown2
     clear ONE hown2 hgr HOW hrow hSi hSi'
     have hSi := hSj
     clear hSj
     obtain ⟨rw_, hrw⟩ : ∃ t : List OpD, t = [⟨2, (X : Int), 1⟩] ++ [⟨2, (Y : Int), 1⟩, ⟨3, (Y : Int), 1⟩] ++ [⟨3, (X : Int), 1⟩] := ⟨_, rfl⟩
     have hrl : rw_.length = 4 := by rw [hrw]; rfl
     rw [← hrw] at hown
     clear hrw
     have HCi := xH1 (HC.out.drawn HWi.out (by omega) (by omega))
     have e4 := HCi.out.blk.cell 4 rfl
     have hot := HCi.out.ot
     have hSi2 : w1.heap.size ≤ wa7.heap.size := by omega
     have HO := xH1 (owns_mono hown (B' := 0) (Nat.zero_le _))
     have HF : Hid (∀ q, rowOf (a3q) = some q → w1.heap.size ≤ q ∧ q ∉ fpV vs) := xH1 (fun q hq => ⟨by have h1 := (owns_row hown q hq).1; omega, fun hm => by have h1 := (owns_row hown q hq).1; have h2 := HC.out.inn.lt q hm; omega⟩)
     have HRi := xH1 (HR.out.grown HWi.out (by simp; omega))
     have HGi := xH1 (grown_trans HG.out HWi.out)
     have hnt : v.nt ≤ 9 := (by have h1 := HC.out.ot.1; have h2 := HC.out.inn.len; have h3 := HPJ.out; simp only [List.length_map, List.take_length] at h2; omega)
     clear hown
     go_wp2_with (at_builtin; refine wpList_append_sl (news := [.slice a3q 4 c3q]) rfl (.tmp 54) (.tmp 56) 24 rfl Try.underlying24 info_ops rfl (by decide) rfl hot rfl rfl rfl (by simp [Value.oneCell']) (by omega) (by decide) hSi2 ?_; intro a6 c6 w8 hown8 hgr8; have hy4 := (HCi.out.blk.grown hgr8 (blk_owns HCi.out.blk hot types_ne.2.2.2.1)).fz 4; have hx4 := (HCi.out.blk.grown hgr8 (blk_owns HCi.out.blk hot types_ne.2.2.2.1)).cell 4 rfl)
     go_roundw
     case rel =>
      have s8 := hgr8.size
      have hrow : ∀ k, rowOf v.t = some k → w1.heap.size ≤ k := fun k hk => (owns_row hot k hk).1
      have gs := grown_set w8 (w3.heap.size + 1) 4 (.slice a6 (v.nt + 1) c6)
      have hpj := HPJ.out
      refine ⟨j + 1, v.thr a6 (v.nt + 1) c6, vs ++ [.slice a3q 4 c3q], { p with threads := p.threads ++ [rw_] }, pos' + 1 + 1 + 1 + 1, by go_num, by omega, by simp; omega, by simp; omega, xH1 (HCi.out.more HO.out HF.out hown8 hgr8), xH1 ⟨HS.out.s, HS.out.g, HS.out.b, HS.out.r, by simp, fun t ht => ?_⟩, xH1 ((HDi.out.gr hgr8 (fun q hq => by have := hrow q hq; omega)).gr gs (fun i e => by cases e; omega)), xH1 ((HRi.out.grown hgr8 (fun e => by have := hrow _ e; omega)).other _ _ (by simp; omega)), xH1 (grown_new (grown_new HGi.out hgr8 (fun q hq => by have := hrow q hq; omega)) gs (fun i e => by cases e; omega)), by simp; omega⟩
      rcases xP1 ht with ht | ht
      ·exact HS.out.i t ht
      ·obtain rfl := xS1 ht; omega
     case measure => simp [intOf]; omega
    ·have tu : decide ((0 : Int) < (U : Int)) = false := decide_eq_false (by omega)
     obtain ⟨rw_, hrw⟩ : ∃ t : List OpD, t = [⟨2, (X : Int), 1⟩] ++ [⟨2, (Y : Int), 1⟩, ⟨3, (Y : Int), 1⟩] := ⟨_, rfl⟩
     have hrl : rw_.length = 3 := by rw [hrw]; rfl
     rw [← hrw] at hown
     clear hrw
     have HCi := xH1 (HC.out.drawn HWi.out (by omega) (by omega))
     have e4 := HCi.out.blk.cell 4 rfl
     have hot := HCi.out.ot
     have hSi2 : w1.heap.size ≤ wp6.heap.size := by omega
     have HO := xH1 (owns_mono hown (B' := 0) (Nat.zero_le _))
     have HF : Hid (∀ q, rowOf (a2q) = some q → w1.heap.size ≤ q ∧ q ∉ fpV vs) := xH1 (fun q hq => ⟨by have h1 := (owns_row hown q hq).1; omega, fun hm => by have h1 := (owns_row hown q hq).1; have h2 := HC.out.inn.lt q hm; omega⟩)
     have HRi := xH1 (HR.out.grown HWi.out (by simp; omega))
     have HGi := xH1 (grown_trans HG.out HWi.out)
     have hnt : v.nt ≤ 9 := (by have h1 := HC.out.ot.1; have h2 := HC.out.inn.len; have h3 := HPJ.out; simp only [List.length_map, List.take_length] at h2; omega)
     clear hown
     go_wp2_with (at_builtin; refine wpList_append_sl (news := [.slice a2q 3 c2q]) rfl (.tmp 54) (.tmp 56) 24 rfl Try.underlying24 info_ops rfl (by decide) rfl hot rfl rfl rfl (by simp [Value.oneCell']) (by omega) (by decide) hSi2 ?_; intro a6 c6 w8 hown8 hgr8; have hy4 := (HCi.out.blk.grown hgr8 (blk_owns HCi.out.blk hot types_ne.2.2.2.1)).fz 4; have hx4 := (HCi.out.blk.grown hgr8 (blk_owns HCi.out.blk hot types_ne.2.2.2.1)).cell 4 rfl)
     go_roundw
     case rel =>
      have s8 := hgr8.size
      have hrow : ∀ k, rowOf v.t = some k → w1.heap.size ≤ k := fun k hk => (owns_row hot k hk).1
      have gs := grown_set w8 (w3.heap.size + 1) 4 (.slice a6 (v.nt + 1) c6)
      have hpj := HPJ.out
      refine ⟨j + 1, v.thr a6 (v.nt + 1) c6, vs ++ [.slice a2q 3 c2q], { p with threads := p.threads ++ [rw_] }, pos' + 1 + 1 + 1 + 1, by go_num, by omega, by simp; omega, by simp; omega, xH1 (HCi.out.more HO.out HF.out hown8 hgr8), xH1 ⟨HS.out.s, HS.out.g, HS.out.b, HS.out.r, by simp, fun t ht => ?_⟩, xH1 ((HDi.out.gr hgr8 (fun q hq => by have := hrow q hq; omega)).gr gs (fun i e => by cases e; omega)), xH1 ((HRi.out.grown hgr8 (fun e => by have := hrow _ e; omega)).other _ _ (by simp; omega)), xH1 (grown_new (grown_new HGi.out hgr8 (fun q hq => by have := hrow q hq; omega)) gs (fun i e => by cases e; omega)), by simp; omega⟩
      rcases xP1 ht with ht | ht
      ·exact HS.out.i t ht
      ·obtain rfl := xS1 ht; omega
     case measure => simp [intOf]; omega
   ·have tz : decide ((0 : Int) < (Z : Int)) = false := decide_eq_false (by omega)
    have ONE : Hid (∀ u ∈ ([.int .i64 1, .int .i64 0, .int .i64 (j : Int)] : List Value), u.oneCell' = true) := xH1 (by intro u hu; simp only [List.mem_cons, List.not_mem_nil, or_false] at hu; rcases hu with rfl | rfl | rfl <;> rfl)
    go_wp2_with (at_builtin; refine wpList_append_sl (m := 1) (cm := 1) (news := [.int .i64 1, .int .i64 0, .int .i64 (j : Int)]) rfl (.tmp 40) (.tmp 43) 59 rfl Try.underlying59 info_op rfl (by decide) rfl hown rfl rfl rfl ONE.out (by omega) (by decide) hSi ?_; intro a4q c4q wa8 hown2 hgr; have HOW := xH1 hown; clear hown)
    have hrow : ∀ k, rowOf (a1q) = some k → wo.heap.size ≤ k := fun k hk => (owns_row HOW.out k hk).1
    have hSi' := hgr.size
    have hSj : wo.heap.size ≤ wa8.heap.size := by omega
    replace HDi := xH1 (HDi.out.gr hgr (fun k hk => by have := hrow k hk; omega))
    replace HWi := xH1 (grown_new HWi.out hgr (fun k hk => hrow k hk))
    have hown : wa8.ownsRow wo.heap.size 61 3 (.slice a4q 2 c4q) 2 (opsV ([⟨2, (X : Int), 1⟩] ++ [⟨1, 0, (j : Int)⟩])) := by simpa [opsV, opv] using hown2
    clear ONE hown2 hgr HOW hrow hSi hSi'
    have hSi := hSj
    clear hSj
    go_wp2_with fail
    refine (pick_some R a n c bs (pos' + 1 + 1 + 1) 6 _ HDi.out (by omega) (by omega)).mono ?_
    rintro e wp9 ⟨U, rfl, hU, hd, g, _⟩
    have hSi' := g.size
    have hSj : wo.heap.size ≤ wp9.heap.size := by omega
    replace hown := owns_grown hown g (fun k e1 e2 => by cases e2; have := owns_row hown _ e1; omega)
    replace HDi := xH1 hd
    replace HWi := xH1 (grown_trans HWi.out g)
    clear hd g hSi hSi'
    have hSi := hSj
    clear hSj
    by_cases hu : 0 < U
    ·have tu : decide ((0 : Int) < (U : Int)) = true := decide_eq_true (by omega)
     have ONE : Hid (∀ u ∈ ([.int .i64 3, .int .i64 (X : Int), .int .i64 1] : List Value), u.oneCell' = true) := xH1 (by intro u hu; simp only [List.mem_cons, List.not_mem_nil, or_false] at hu; rcases hu with rfl | rfl | rfl <;> rfl)
     go_upto_region 14 with (at_builtin; refine wpList_append_sl (m := 1) (cm := 1) (news := [.int .i64 3, .int .i64 (X : Int), .int .i64 1]) rfl (.tmp 48) (.tmp 51) 59 rfl Try.underlying59 info_op rfl (by decide) rfl hown rfl rfl rfl ONE.out (by omega) (by decide) hSi ?_; intro a5q c5q wa10 hown2 hgr; have HOW := xH1 hown; clear hown)
     have hrow : ∀ k, rowOf (a4q) = some k → wo.heap.size ≤ k := fun k hk => (owns_row HOW.out k hk).1
     have hSi' := hgr.size
     have hSj : wo.heap.size ≤ wa10.heap.size := by omega
     replace HDi := xH1 (HDi.out.gr hgr (fun k hk => by have := hrow k hk; omega))
     replace HWi := xH1 (grown_new HWi.out hgr (fun k hk => hrow k hk))
     have hown : wa10.ownsRow wo.heap.size 61 3 (.slice a5q 3 c5q) 3 (opsV ([⟨2, (X : Int), 1⟩] ++ [⟨1, 0, (j : Int)⟩] ++ [⟨3, (X : Int), 1⟩])) := by simpa [opsV, opv] using hown2
     clear ONE hown2 hgr HOW hrow hSi hSi'
     have hSi := hSj
     clear hSj
     obtain ⟨rw_, hrw⟩ : ∃ t : List OpD, t = [⟨2, (X : Int), 1⟩] ++ [⟨1, 0, (j : Int)⟩] ++ [⟨3, (X : Int), 1⟩] := ⟨_, rfl⟩
     have hrl : rw_.length = 3 := by rw [hrw]; rfl
     rw [← hrw] at hown
     clear hrw
     have HCi := xH1 (HC.out.drawn HWi.out (by omega) (by omega))
     have e4 := HCi.out.blk.cell 4 rfl
     have hot := HCi.out.ot
     have hSi2 : w1.heap.size ≤ wa10.heap.size := by omega
     have HO := xH1 (owns_mono hown (B' := 0) (Nat.zero_le _))
     have HF : Hid (∀ q, rowOf (a5q) = some q → w1.heap.size ≤ q ∧ q ∉ fpV vs) := xH1 (fun q hq => ⟨by have h1 := (owns_row hown q hq).1; omega, fun hm => by have h1 := (owns_row hown q hq).1; have h2 := HC.out.inn.lt q hm; omega⟩)
     have HRi := xH1 (HR.out.grown HWi.out (by simp; omega))
     have HGi := xH1 (grown_trans HG.out HWi.out)
     have hnt : v.nt ≤ 9 := (by have h1 := HC.out.ot.1; have h2 := HC.out.inn.len; have h3 := HPJ.out; simp only [List.length_map, List.take_length] at h2; omega)
     clear hown
     go_wp2_with (at_builtin; refine wpList_append_sl (news := [.slice a5q 3 c5q]) rfl (.tmp 54) (.tmp 56) 24 rfl Try.underlying24 info_ops rfl (by decide) rfl hot rfl rfl rfl (by simp [Value.oneCell']) (by omega) (by decide) hSi2 ?_; intro a6 c6 w8 hown8 hgr8; have hy4 := (HCi.out.blk.grown hgr8 (blk_owns HCi.out.blk hot types_ne.2.2.2.1)).fz 4; have hx4 := (HCi.out.blk.grown hgr8 (blk_owns HCi.out.blk hot types_ne.2.2.2.1)).cell 4 rfl)
     go_roundw
     case rel =>
      have s8 := hgr8.size
      have hrow : ∀ k, rowOf v.t = some k → w1.heap.size ≤ k := fun k hk => (owns_row hot k hk).1
      have gs := grown_set w8 (w3.heap.size + 1) 4 (.slice a6 (v.nt + 1) c6)
      have hpj := HPJ.out
      refine ⟨j + 1, v.thr a6 (v.nt + 1) c6, vs ++ [.slice a5q 3 c5q], { p with threads := p.threads ++ [rw_] }, pos' + 1 + 1 + 1 + 1, by go_num, by omega, by simp; omega, by simp; omega, xH1 (HCi.out.more HO.out HF.out hown8 hgr8), xH1 ⟨HS.out.s, HS.out.g, HS.out.b, HS.out.r, by simp, fun t ht => ?_⟩, xH1 ((HDi.out.gr hgr8 (fun q hq => by have := hrow q hq; omega)).gr gs (fun i e => by cases e; omega)), xH1 ((HRi.out.grown hgr8 (fun e => by have := hrow _ e; omega)).other _ _ (by simp; omega)), xH1 (grown_new (grown_new HGi.out hgr8 (fun q hq => by have := hrow q hq; omega)) gs (fun i e => by cases e; omega)), by simp; omega⟩
      rcases xP1 ht with ht | ht
      ·exact HS.out.i t ht
      ·obtain rfl := xS1 ht; omega
     case measure => simp [intOf]; omega
    ·have tu : decide ((0 : Int) < (U : Int)) = false := decide_eq_false (by omega)
     obtain ⟨rw_, hrw⟩ : ∃ t : List OpD, t = [⟨2, (X : Int), 1⟩] ++ [⟨1, 0, (j : Int)⟩] := ⟨_, rfl⟩
     have hrl : rw_.length = 2 := by rw [hrw]; rfl
     rw [← hrw] at hown
     clear hrw
     have HCi := xH1 (HC.out.drawn HWi.out (by omega) (by omega))
     have e4 := HCi.out.blk.cell 4 rfl
     have hot := HCi.out.ot
     have hSi2 : w1.heap.size ≤ wp9.heap.size := by omega
     have HO := xH1 (owns_mono hown (B' := 0) (Nat.zero_le _))
     have HF : Hid (∀ q, rowOf (a4q) = some q → w1.heap.size ≤ q ∧ q ∉ fpV vs) := xH1 (fun q hq => ⟨by have h1 := (owns_row hown q hq).1; omega, fun hm => by have h1 := (owns_row hown q hq).1; have h2 := HC.out.inn.lt q hm; omega⟩)
     have HRi := xH1 (HR.out.grown HWi.out (by simp; omega))
     have HGi := xH1 (grown_trans HG.out HWi.out)
     have hnt : v.nt ≤ 9 := (by have h1 := HC.out.ot.1; have h2 := HC.out.inn.len; have h3 := HPJ.out; simp only [List.length_map, List.take_length] at h2; omega)
     clear hown
     go_wp2_with (at_builtin; refine wpList_append_sl (news := [.slice a4q 2 c4q]) rfl (.tmp 54) (.tmp 56) 24 rfl Try.underlying24 info_ops rfl (by decide) rfl hot rfl rfl rfl (by simp [Value.oneCell']) (by omega) (by decide) hSi2 ?_; intro a6 c6 w8 hown8 hgr8; have hy4 := (HCi.out.blk.grown hgr8 (blk_owns HCi.out.blk hot types_ne.2.2.2.1)).fz 4; have hx4 := (HCi.out.blk.grown hgr8 (blk_owns HCi.out.blk hot types_ne.2.2.2.1)).cell 4 rfl)
     go_roundw
     case rel =>
      have s8 := hgr8.size
      have hrow : ∀ k, rowOf v.t = some k → w1.heap.size ≤ k := fun k hk => (owns_row hot k hk).1
      have gs := grown_set w8 (w3.heap.size + 1) 4 (.slice a6 (v.nt + 1) c6)
      have hpj := HPJ.out
      refine ⟨j + 1, v.thr a6 (v.nt + 1) c6, vs ++ [.slice a4q 2 c4q], { p with threads := p.threads ++ [rw_] }, pos' + 1 + 1 + 1 + 1, by go_num, by omega, by simp; omega, by simp; omega, xH1 (HCi.out.more HO.out HF.out hown8 hgr8), xH1 ⟨HS.out.s, HS.out.g, HS.out.b, HS.out.r, by simp, fun t ht => ?_⟩, xH1 ((HDi.out.gr hgr8 (fun q hq => by have := hrow q hq; omega)).gr gs (fun i e => by cases e; omega)), xH1 ((HRi.out.grown hgr8 (fun e => by have := hrow _ e; omega)).other _ _ (by simp; omega)), xH1 (grown_new (grown_new HGi.out hgr8 (fun q hq => by have := hrow q hq; omega)) gs (fun i e => by cases e; omega)), by simp; omega⟩
      rcases xP1 ht with ht | ht
      ·exact HS.out.i t ht
      ·obtain rfl := xS1 ht; omega
     case measure => simp [intOf]; omega
  ·obtain rfl : j = 2 := by omega
   have e0 := HC.out.blk.cell 0 rfl
   have e1 := HC.out.blk.cell 1 rfl
   have e2 := HC.out.blk.cell 2 rfl
   have e3 := HC.out.blk.cell 3 rfl
   have e4 := HC.out.blk.cell 4 rfl
   have y0 := HR.out.cell 0 rfl
   have x0 := HR.out.fz 0
   have y1 := HR.out.cell 1 rfl
   have x1 := HR.out.fz 1
   have y2 := HR.out.cell 2 rfl
   have x2 := HR.out.fz 2
   have y3 := HR.out.cell 3 rfl
   have x3 := HR.out.fz 3
   have y4 := HR.out.cell 4 rfl
   have x4 := HR.out.fz 4
   have hz5 : wo.grownBy ((((((wo).setCell ⟨w.heap.size, 0, none⟩ (.slice v.s v.ns v.cs)).setCell ⟨w.heap.size, 1, none⟩ (.slice v.g v.ng v.cg)).setCell ⟨w.heap.size, 2, none⟩ (.slice v.b v.nb v.cb)).setCell ⟨w.heap.size, 3, none⟩ (.slice v.r v.nr v.cr)).setCell ⟨w.heap.size, 4, none⟩ (.slice v.t v.nt v.ct)) (some w.heap.size) := grown_trans (grown_trans (grown_trans (grown_trans (grown_set _ _ _ _) (grown_set _ _ _ _)) (grown_set _ _ _ _)) (grown_set _ _ _ _)) (grown_set _ _ _ _)
   have HZ5 := xH1 hz5
   clear hz5
   go_wp2
   refine bodyPost_ret (v := .agg #[.slice v.s v.ns v.cs, .slice v.g v.ng v.cg, .slice v.b v.nb v.cb, .slice v.r v.nr v.cr, .slice v.t v.nt v.ct]) (by simp [results, Try.results84, go_sem, y0, y1, y2, y3, y4]) rfl ⟨v, vs, p, pos', rfl, (HC.out.own rfl).keep (fun k hk hl => HZ5.out.block k hl (fun e => by cases e; have := HC.out.fresh _ hk; omega)), fun q hq => by have := HC.out.fresh q hq; omega, HS.out.few (by have := HPJ.out; omega), HD.out.gr HZ5.out (fun i e => by cases e; omega), by omega, grown_new HG.out HZ5.out (fun i e => by cases e; omega)⟩
theorem l10Draw_any (R : Nat) (a : Option Addr) (n c : Nat) (bs : List Int) (pos : Int) (w : World) (h : Rdr w R a n c bs pos) (hp : pos ≤ 1099511500000) :
  Calls Try.prog 51 #[.pointer (some ⟨R, 0, none⟩)] w fun e w' => ∃ (v : PV) (vs : List Value) (p : Pg) (pos' : Int), e = .returned (.agg #[.slice v.s v.ns v.cs, .slice v.g v.ng v.cg, .slice v.b v.nb v.cb, .slice v.r v.nr v.cr, .slice v.t v.nt v.ct]) ∧ OwnP w' v vs p.cells ∧ (∀ q ∈ fpP v vs, w.heap.size ≤ q) ∧ Few p 10 ∧ Rdr w' R a n c bs pos' ∧ pos' ≤ pos + 200 ∧ w.grownBy w' (some R) := by
 have hRw := h.lt
 have b0 : Below w.heap.size w (w.alloc (.cells #[.slice none 0 0, .slice none 0 0, .slice none 0 0, .slice none 0 0, .slice none 0 0] 26)) := xA1
 have k0 : Blk (w.alloc (.cells #[.slice none 0 0, .slice none 0 0, .slice none 0 0, .slice none 0 0, .slice none 0 0] 26)) w.heap.size #[.slice none 0 0, .slice none 0 0, .slice none 0 0, .slice none 0 0, .slice none 0 0] 26 := Blk.new _ _ _
 have s0 : (w.alloc (.cells #[.slice none 0 0, .slice none 0 0, .slice none 0 0, .slice none 0 0, .slice none 0 0] 26)).heap.size = w.heap.size + 1 := by simp
 have h0 := h.below b0
 have HG0 := xH1 (grown_of_below b0 (some R))
 clear b0 h
 go_enter Try.func51, Try.ntmps51
 go_wp2_with fail
 refine (pick_some R a n c bs pos 3 _ h0 (by omega) (by omega)).mono ?_
 rintro e w1 ⟨x, rfl, hx, h1, g1, _⟩
 have s1 := g1.size
 rw [s0] at s1
 have k1 := k0.grown g1 (by simp; omega)
 have HG1 := xH1 (grown_trans HG0.out g1)
 clear h0 k0 g1 s0 HG0
 by_cases hx0 : 0 < x
 ·have t0 : decide ((0 : Int) < (x : Int)) = true := decide_eq_true (by omega)
  go_wp2_with fail
  refine (l10Prog_any R a n c bs (pos + 1) w1 h1 (by omega)).mono ?_
  rintro e w2 ⟨v, vs, p, pos', rfl, o2, f2, z2, h2, hp2, g2⟩
  have s2 := g2.size
  have k2 := k1.grown g2 (by simp; omega)
  have HG2 := xH1 (grown_trans HG1.out g2)
  have HO := xH1 o2
  have HF := xH1 f2
  have HD := xH1 h2
  have HZ := xH1 z2
  clear h1 k1 g2 o2 f2 h2 z2
  have y0 := k2.cell 0 rfl
  have x0 := k2.fz 0
  have y1 := k2.cell 1 rfl
  have x1 := k2.fz 1
  have y2 := k2.cell 2 rfl
  have x2 := k2.fz 2
  have y3 := k2.cell 3 rfl
  have x3 := k2.fz 3
  have y4 := k2.cell 4 rfl
  have x4 := k2.fz 4
  have hz5 : w2.grownBy ((((((w2).setCell ⟨w.heap.size, 0, none⟩ (.slice v.s v.ns v.cs)).setCell ⟨w.heap.size, 1, none⟩ (.slice v.g v.ng v.cg)).setCell ⟨w.heap.size, 2, none⟩ (.slice v.b v.nb v.cb)).setCell ⟨w.heap.size, 3, none⟩ (.slice v.r v.nr v.cr)).setCell ⟨w.heap.size, 4, none⟩ (.slice v.t v.nt v.ct)) (some (w.heap.size)) := grown_trans (grown_trans (grown_trans (grown_trans (grown_set _ _ _ _) (grown_set _ _ _ _)) (grown_set _ _ _ _)) (grown_set _ _ _ _)) (grown_set _ _ _ _)
  have HZ5 := xH1 hz5
  clear hz5
  go_wp2
  refine bodyPost_ret (v := .agg #[.slice v.s v.ns v.cs, .slice v.g v.ng v.cg, .slice v.b v.nb v.cb, .slice v.r v.nr v.cr, .slice v.t v.nt v.ct]) (by simp [results, Try.results51, go_sem, y0, y1, y2, y3, y4]) rfl ⟨v, vs, p, pos', rfl, HO.out.keep (fun k hk hl => HZ5.out.block k hl (fun e => by cases e; have := HF.out _ hk; omega)), fun q hq => by have := HF.out q hq; omega, HZ.out.mono (by omega), HD.out.gr HZ5.out (fun i e => by cases e; omega), by omega, grown_new HG2.out HZ5.out (fun i e => by cases e; omega)⟩
 ·have t0 : decide ((0 : Int) < (x : Int)) = false := decide_eq_false (by omega)
  go_wp2_with fail
  refine (l6Draw_any R a n c bs (pos + 1) w1 h1 (by omega)).mono ?_
  rintro e w2 ⟨v, vs, p, pos', rfl, o2, f2, z2, h2, hp2, g2⟩
  have s2 := g2.size
  have k2 := k1.grown g2 (by simp; omega)
  have HG2 := xH1 (grown_trans HG1.out g2)
  clear h1 k1 g2
  go_wp2_with fail
  refine (l6Wrong_any R a n c bs pos' v p 9 w2 h2 (by omega) o2.rd z2 (by omega)).mono ?_
  rintro e w3 ⟨v', vs', p', pos3, rfl, o3, f3, z3, h3, hp3, g3⟩
  have s3 := g3.size
  have k3 := k2.grown g3 (by simp; omega)
  have HG3 := xH1 (grown_trans HG2.out g3)
  have HO := xH1 o3
  have HF := xH1 f3
  have HD := xH1 h3
  have HZ := xH1 z3
  clear k2 g3 o3 f3 h3 z3 o2 f2 h2 z2
  have y0 := k3.cell 0 rfl
  have x0 := k3.fz 0
  have y1 := k3.cell 1 rfl
  have x1 := k3.fz 1
  have y2 := k3.cell 2 rfl
  have x2 := k3.fz 2
  have y3 := k3.cell 3 rfl
  have x3 := k3.fz 3
  have y4 := k3.cell 4 rfl
  have x4 := k3.fz 4
  have hz5 : w3.grownBy ((((((w3).setCell ⟨w.heap.size, 0, none⟩ (.slice v'.s v'.ns v'.cs)).setCell ⟨w.heap.size, 1, none⟩ (.slice v'.g v'.ng v'.cg)).setCell ⟨w.heap.size, 2, none⟩ (.slice v'.b v'.nb v'.cb)).setCell ⟨w.heap.size, 3, none⟩ (.slice v'.r v'.nr v'.cr)).setCell ⟨w.heap.size, 4, none⟩ (.slice v'.t v'.nt v'.ct)) (some (w.heap.size)) := grown_trans (grown_trans (grown_trans (grown_trans (grown_set _ _ _ _) (grown_set _ _ _ _)) (grown_set _ _ _ _)) (grown_set _ _ _ _)) (grown_set _ _ _ _)
  have HZ5 := xH1 hz5
  clear hz5
  go_wp2
  refine bodyPost_ret (v := .agg #[.slice v'.s v'.ns v'.cs, .slice v'.g v'.ng v'.cg, .slice v'.b v'.nb v'.cb, .slice v'.r v'.nr v'.cr, .slice v'.t v'.nt v'.ct]) (by simp [results, Try.results51, go_sem, y0, y1, y2, y3, y4]) rfl ⟨v', vs', p', pos3, rfl, HO.out.keep (fun k hk hl => HZ5.out.block k hl (fun e => by cases e; have := HF.out _ hk; omega)), fun q hq => by have := HF.out q hq; omega, HZ.out, HD.out.gr HZ5.out (fun i e => by cases e; omega), by omega, grown_new HG3.out HZ5.out (fun i e => by cases e; omega)⟩
theorem drawOnlySems_any (a : Option Addr) (n c : Nat) (bs : List Int) (w : World) (hC : Code13 w a n c bs) :
  Calls Try.prog 23 #[.slice a n c] w fun e w' => ∃ (v : PV) (vs : List Value) (p : Pg), e = .returned (.agg #[.slice v.s v.ns v.cs, .slice v.g v.ng v.cg, .slice v.b v.nb v.cb, .slice v.r v.nr v.cr, .slice v.t v.nt v.ct]) ∧ Own w' w.heap.size v vs p 10 ∧ Below w.heap.size w w' := by
 have b0 : Below w.heap.size w (w.alloc (.cells #[.slice none 0 0, .slice none 0 0, .slice none 0 0, .slice none 0 0, .slice none 0 0] 26)) := xA1
 have k0 : Blk (w.alloc (.cells #[.slice none 0 0, .slice none 0 0, .slice none 0 0, .slice none 0 0, .slice none 0 0] 26)) w.heap.size #[.slice none 0 0, .slice none 0 0, .slice none 0 0, .slice none 0 0, .slice none 0 0] 26 := Blk.new _ _ _
 have s0 : (w.alloc (.cells #[.slice none 0 0, .slice none 0 0, .slice none 0 0, .slice none 0 0, .slice none 0 0] 26)).heap.size = w.heap.size + 1 := by simp
 have hC0 := hC.below b0
 go_enter Try.func23, Try.ntmps23
 go_wp2_with fail
 refine hC0.open.mono ?_
 rintro e w1 ⟨rfl, n', bs', r1, b1, s1⟩
 have k1 := k0.below b1
 have HB1 := xH1 (b0.trans (b1.mono b0.size))
 rw [s0] at r1 s1
 have s1' : w.heap.size + 2 ≤ w1.heap.size := by omega
 clear b0 k0 b1 hC hC0 s1
 rw [s0]
 clear s0
 go_wp2_with fail
 refine (l10Draw_any (w.heap.size + 1) a n' c bs' 0 w1 r1 (by omega)).mono ?_
 rintro e w2 ⟨v, vs, p, pos', rfl, o2, f2, z2, r2, hp2, g2⟩
 have s2 := g2.size
 have k2 := k1.grown g2 (by simp)
 have HB2 := xH1 (HB1.out.trans (below_of_grown g2 (by omega) (fun i e => by cases e; omega)))
 have HO : Hid (Own w2 (w.heap.size + 1) v vs p 10) := xH1 ⟨o2, fun q hq => by have := f2 q hq; omega, z2⟩
 clear r1 g2 k1 r2 o2 f2 z2
 have y0 := k2.cell 0 rfl
 have x0 := k2.fz 0
 have y1 := k2.cell 1 rfl
 have x1 := k2.fz 1
 have y2 := k2.cell 2 rfl
 have x2 := k2.fz 2
 have y3 := k2.cell 3 rfl
 have x3 := k2.fz 3
 have y4 := k2.cell 4 rfl
 have x4 := k2.fz 4
 have hz5 : w2.grownBy ((((((w2).setCell ⟨w.heap.size, 0, none⟩ (.slice v.s v.ns v.cs)).setCell ⟨w.heap.size, 1, none⟩ (.slice v.g v.ng v.cg)).setCell ⟨w.heap.size, 2, none⟩ (.slice v.b v.nb v.cb)).setCell ⟨w.heap.size, 3, none⟩ (.slice v.r v.nr v.cr)).setCell ⟨w.heap.size, 4, none⟩ (.slice v.t v.nt v.ct)) (some (w.heap.size)) := grown_trans (grown_trans (grown_trans (grown_trans (grown_set _ _ _ _) (grown_set _ _ _ _)) (grown_set _ _ _ _)) (grown_set _ _ _ _)) (grown_set _ _ _ _)
 have HZ5 := xH1 hz5
 clear hz5
 go_wp2
 refine bodyPost_ret (v := .agg #[.slice v.s v.ns v.cs, .slice v.g v.ng v.cg, .slice v.b v.nb v.cb, .slice v.r v.nr v.cr, .slice v.t v.nt v.ct]) (by simp [results, Try.results23, go_sem, y0, y1, y2, y3, y4]) rfl ⟨v, vs, p, rfl, (HO.out.gr HZ5.out (by omega)).mono (by omega), HB2.out.trans (below_of_grown HZ5.out (by omega) (fun i e => by cases e; omega))⟩
end Go.Proofs.Ytoeockmkhpehbaa
