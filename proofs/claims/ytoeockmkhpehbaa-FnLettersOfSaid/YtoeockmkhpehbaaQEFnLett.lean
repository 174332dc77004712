/- Part of a proof: BaseA BaseB BaseD Draws2 BaseE TalliesSpec WkInts Count RunLaws IRun IOver RunEnds. -/
import Derived.Lib.QuietBelow
import Derived.BigQuiet
import Derived.IntWalk
import Derived.Deep.RegionHeld3
import Derived.Deep.AppendLies
import Derived.Test.YtoeockmkhpehbaaQPRun
import Derived.Test.YtoeockmkhpehbaaRows
import Derived.WalkKit
import Derived.WalkSmall
import Derived.Lib.Hide
import Derived.WalkSpells
import Derived.WalkLawsBesides
import Derived.Deep.QuietTactic
import Derived.Maps.AppendAt
import Derived.Laws.IdiomStrings
import Derived.StillTailTactics
import Derived.StillTail
import Derived.ArgAppend
import Derived.Deep.Slices
import Derived.ProofKit
import Derived.Shelf.Abstract
import Derived.Deep.Cut
import Derived.Lib.SliceRun
import Derived.Deep.RegionLaw
set_option maxRecDepth 100000
set_option maxHeartbeats 16000000
namespace Go.Proofs.Ytoeockmkhpehbaa
open Go.RowKit
theorem below_of_drewN {w w' : World} {B : Nat} (e : ∃ n, w' = w.drewN n) : Below B w w' := by
 obtain ⟨n, rfl⟩ := e; exact below_drewN' _ _
theorem take_succ_int (zs : List Int) (k : Nat) (hk : k < zs.length) : zs.take (k + 1) = zs.take k ++ [zs.getD k 0] := by
 rw [List.take_add_one, List.getElem?_eq_getElem hk]; simp [List.getD, hk]

section
variable {w w' : World} {R : Nat} {a : Option Addr} {n c : Nat} {bs : List Int} {p : Int}
end
section
variable {P : Program} {w : World}
end
theorem keepa {u w : World} {C : Prop} (h : C ∧ Below u.heap.size u w) (o : Obj) : Below u.heap.size u (w.alloc o) := h.2.alloc h.2.size o
theorem keept {u w w' : World} {C : Prop} {row : Option Nat} (h : C ∧ Below u.heap.size u w) (hg : w.grownBy w' row) (hr : ∀ k, row = some k → u.heap.size ≤ k) : Below u.heap.size u w' := h.2.trans (below_of_grown hg h.2.size hr)





end Go.Proofs.Ytoeockmkhpehbaa
namespace Go.Proofs.Ytoeockmkhpehbaa
open Go.RowKit Go.Sort
theorem keepb {u w w' : World} {C : Prop} (hb : Below w.heap.size w w') (h : C ∧ Below u.heap.size u w) : Below u.heap.size u w' := h.2.trans (hb.mono h.2.size)
end Go.Proofs.Ytoeockmkhpehbaa
namespace Go.Proofs.Ytoeockmkhpehbaa
open Go.RowKit









end Go.Proofs.Ytoeockmkhpehbaa
namespace Go.Proofs.Ytoeockmkhpehbaa
open Go.RowKit Go.ChangeShapes Go.WideShapes Go.Deep
section
variable {H : Type} {enc : TypeId × Value → H} {w : World} {base : Nat} {held : Bool}
end
end Go.Proofs.Ytoeockmkhpehbaa
namespace Go.Proofs.Ytoeockmkhpehbaa
open Go.RowKit


end Go.Proofs.Ytoeockmkhpehbaa
namespace Go.Proofs.Ytoeockmkhpehbaa
open Go.RowKit Go.Sort

end Go.Proofs.Ytoeockmkhpehbaa
namespace Go.Proofs.Ytoeockmkhpehbaa
open Go.RowKit

end Go.Proofs.Ytoeockmkhpehbaa
namespace Go.Proofs.Ytoeockmkhpehbaa
open Go.RowKit Go.Sort

end Go.Proofs.Ytoeockmkhpehbaa
namespace Go.Proofs.Ytoeockmkhpehbaa
open Go.RowKit



def sumAt (of : OpD → Int) (i : Nat) : List OpD → Int
 | [] => 0
 | o :: os => (if o.on = i then of o else 0) + sumAt of i os
def sumsAt (of : OpD → Int) (i : Nat) : List (List OpD) → Int
 | [] => 0
 | t :: ts => sumAt of i t + sumsAt of i ts
theorem sumAt_append (of : OpD → Int) (i : Nat) (a b : List OpD) : sumAt of i (a ++ b) = sumAt of i a + sumAt of i b := by
 induction a with
 | nil => simp [sumAt]
 | cons o os ih => simp only [List.cons_append, sumAt, ih]; omega
theorem sumsAt_append (of : OpD → Int) (i : Nat) (a b : List (List OpD)) : sumsAt of i (a ++ b) = sumsAt of i a + sumsAt of i b := by
 induction a with
 | nil => simp [sumsAt]
 | cons o os ih => simp only [List.cons_append, sumsAt, ih]; omega
theorem sumAt_take (of : OpD → Int) (i : Nat) (t : List OpD) (k : Nat) (hk : k < t.length) : sumAt of i (t.take (k + 1)) = sumAt of i (t.take k) + (if (t.getD k noOp).on = i then of (t.getD k noOp) else 0) := by
 have e : t.take (k + 1) = t.take k ++ [t.getD k noOp] := by rw [List.take_add_one, List.getElem?_eq_getElem hk]; simp [List.getD, hk]
 rw [e, sumAt_append]; simp [sumAt]
theorem sumsAt_take (of : OpD → Int) (i : Nat) (ts : List (List OpD)) (k : Nat) (hk : k < ts.length) : sumsAt of i (ts.take (k + 1)) = sumsAt of i (ts.take k) + sumAt of i (ts.getD k []) := by
 have e : ts.take (k + 1) = ts.take k ++ [ts.getD k []] := by rw [List.take_add_one, List.getElem?_eq_getElem hk]; simp [List.getD, hk]
 rw [e, sumsAt_append]; simp [sumsAt]
theorem sumAt_le (of : OpD → Int) (i : Nat) (t : List OpD) (h : ∀ o ∈ t, -9 ≤ of o ∧ of o ≤ 9) : -(9 * (t.length : Int)) ≤ sumAt of i t ∧ sumAt of i t ≤ 9 * (t.length : Int) := by
 induction t with
 | nil => simp [sumAt]
 | cons o os ih =>
  have h1 := h o (by simp)
  have h2 := ih (fun x hx => h x (by simp [hx]))
  simp only [sumAt, List.length_cons]
  split <;> omega
def tallyOf (start : List Int) (of : OpD → Int) (ts : List (List OpD)) : List Int := (List.range start.length).map fun i => start.getD i 0 + sumsAt of i ts
theorem tallyOf_len (start : List Int) (of : OpD → Int) (ts : List (List OpD)) : (tallyOf start of ts).length = start.length := by simp [tallyOf]
theorem tallyOf_get (start : List Int) (of : OpD → Int) (ts : List (List OpD)) (i : Nat) (hi : i < start.length) : (tallyOf start of ts).getD i 0 = start.getD i 0 + sumsAt of i ts := by
 simp [tallyOf, List.getD, hi]
theorem tallyOf_nil (start : List Int) (of : OpD → Int) : tallyOf start of [] = start := by
 apply List.ext_getElem (by simp [tallyOf])
 intro i h1 h2
 simp [tallyOf, sumsAt, List.getD, h2]
theorem tallyOf_start (start : List Int) (of : OpD → Int) (A : List (List OpD)) : tallyOf start of (A ++ [[]]) = tallyOf start of A := by
 unfold tallyOf
 apply List.map_congr_left
 intro i _
 rw [sumsAt_append]; simp [sumsAt, sumAt]
theorem tallyOf_step {start : List Int} {of : OpD → Int} {A : List (List OpD)} {t : List OpD} {k : Nat} (hk : k < t.length) {o : OpD} (ho : t.getD k noOp = o) (h0 : 0 ≤ o.on) (h1 : o.on < start.length) :
  tallyOf start of (A ++ [t.take (k + 1)]) = (tallyOf start of (A ++ [t.take k])).set o.on.toNat ((tallyOf start of (A ++ [t.take k])).getD o.on.toNat 0 + of o) := by
 have hn : o.on.toNat < start.length := by omega
 rw [tallyOf_get _ _ _ _ hn]
 apply List.ext_getElem (by simp [tallyOf])
 intro i hi1 hi2
 have hi : i < start.length := by simpa [tallyOf] using hi1
 simp only [tallyOf, List.getElem_map, List.getElem_range, List.getElem_set]
 rw [sumsAt_append, sumsAt_append, sumsAt_append]
 simp only [sumsAt]
 rw [sumAt_take of i t k hk, ho]
 by_cases e : o.on.toNat = i
 ·subst e
  rw [if_pos rfl, if_pos (by omega)]; omega
 ·rw [if_neg e, if_neg (by omega)]; omega
theorem tallyOf_skip {start : List Int} {of : OpD → Int} {A : List (List OpD)} {t : List OpD} {k : Nat} (hk : k < t.length) {o : OpD} (ho : t.getD k noOp = o) (h0 : of o = 0) :
  tallyOf start of (A ++ [t.take (k + 1)]) = tallyOf start of (A ++ [t.take k]) := by
 unfold tallyOf
 apply List.map_congr_left
 intro i _
 rw [sumsAt_append, sumsAt_append]
 simp only [sumsAt]
 rw [sumAt_take of i t k hk, ho, h0]; simp
theorem tallyOf_done (start : List Int) (of : OpD → Int) (ts : List (List OpD)) (i : Nat) (hi : i < ts.length) : tallyOf start of (ts.take i ++ [(ts.getD i []).take (ts.getD i []).length]) = tallyOf start of (ts.take (i + 1)) := by
 rw [List.take_length]
 congr 1
 rw [List.take_add_one, List.getElem?_eq_getElem hi]; simp [List.getD, hi]
theorem sumsAt_le (of : OpD → Int) (i : Nat) (ts : List (List OpD)) (n : Nat) (hn : ts.length ≤ n) (h : ∀ t ∈ ts, t.length ≤ 8 ∧ ∀ o ∈ t, -9 ≤ of o ∧ of o ≤ 9) : -(72 * (n : Int)) ≤ sumsAt of i ts ∧ sumsAt of i ts ≤ 72 * (n : Int) := by
 induction ts generalizing n with
 | nil => simp [sumsAt]; omega
 | cons t ts ih =>
  cases n with
  | zero => simp at hn
  | succ n =>
   have h1 := h t (by simp)
   have h2 := sumAt_le of i t h1.2
   have h3 := ih n (by simpa using hn) (fun x hx => h x (by simp [hx]))
   simp only [sumsAt]; omega
theorem sumsAt_sub (f g : OpD → Int) (i : Nat) (ts : List (List OpD)) : sumsAt (fun o => f o - g o) i ts = sumsAt f i ts - sumsAt g i ts := by
 have h1 : ∀ t, sumAt (fun o => f o - g o) i t = sumAt f i t - sumAt g i t := by
  intro t
  induction t with
  | nil => simp [sumAt]
  | cons o os ih => simp only [sumAt, ih]; split <;> omega
 induction ts with
 | nil => simp [sumsAt]
 | cons t ts ih => simp only [sumsAt, ih, h1]; omega
theorem sumsAt_congr (f g : OpD → Int) (h : ∀ o, f o = g o) (i : Nat) (ts : List (List OpD)) : sumsAt f i ts = sumsAt g i ts := by
 have : f = g := funext h
 rw [this]
def ofKind (kind : Int) (args : Bool) (o : OpD) : Int := if o.kind = kind then (if args then o.arg else 1) else 0
theorem tally_small {p : Pg} {start : List Int} {of : OpD → Int} (hv : progValid p = true) {i k j : Nat} (hi : i < p.threads.length) (hk : k ≤ (p.threads.getD i []).length) (hst : -9 ≤ start.getD j 0 ∧ start.getD j 0 ≤ 9) (hob : ∀ o, opValid p o = true → -9 ≤ of o ∧ of o ≤ 9) :
  -330 ≤ (tallyOf start of (p.threads.take i ++ [(p.threads.getD i []).take k])).getD j 0 ∧ (tallyOf start of (p.threads.take i ++ [(p.threads.getD i []).take k])).getD j 0 ≤ 330 := by
 by_cases hj : j < start.length
 ·rw [tallyOf_get _ _ _ _ hj]
  have h4 := (valid_threads hv).2
  have hx : ∀ t ∈ p.threads.take i ++ [(p.threads.getD i []).take k], t.length ≤ 8 ∧ ∀ o ∈ t, -9 ≤ of o ∧ of o ≤ 9 := by
   intro t ht
   have key : ∀ t0 ∈ p.threads, t0.length ≤ 8 ∧ ∀ o ∈ t0, -9 ≤ of o ∧ of o ≤ 9 := by
    intro t0 h0
    obtain ⟨q, hq, rfl⟩ := List.getElem_of_mem h0
    have e : p.threads.getD q [] = p.threads[q] := by simp [List.getD, hq]
    refine ⟨by rw [← e]; exact valid_len hv hq, fun o ho => ?_⟩
    obtain ⟨r, hr, rfl⟩ := List.getElem_of_mem ho
    have := valid_op hv hq (k := r) (by rw [e]; exact hr)
    rw [e] at this
    have e2 : (p.threads[q]).getD r noOp = (p.threads[q])[r] := by simp [List.getD, hr]
    rw [e2] at this
    exact hob _ this
   rcases xP1 ht with h | h
   ·exact key t (List.mem_of_mem_take h)
   ·obtain rfl : t = (p.threads.getD i []).take k := by simpa using h
    have e : p.threads.getD i [] = p.threads[i] := by simp [List.getD, hi]
    have := key (p.threads.getD i []) (by rw [e]; exact List.getElem_mem hi)
    exact ⟨by rw [List.length_take]; omega, fun o ho => this.2 o (List.mem_of_mem_take ho)⟩
  have := sumsAt_le of j _ 4 (by simp; omega) hx
  omega
 ·have : (tallyOf start of (p.threads.take i ++ [(p.threads.getD i []).take k])).getD j 0 = 0 := by
   simp [List.getD, tallyOf_len, Nat.le_of_not_lt hj]
  rw [this]; omega
def ofGroupsLeft (o : OpD) : Int := if o.kind = 5 then o.arg else 0
def ofArrivalsOf (o : OpD) : Int := if o.kind = 7 then 1 else 0
def ofLettersOf (o : OpD) : Int := if o.kind = 8 then 1 else if o.kind = 9 then -1 else 0
theorem own_int {w : World} {B n c G : Nat} {xs : List Int} (h : w.ownsRow B 3 1 (.slice (some ⟨G, 0, none⟩) n c) n (ints xs)) (j : Nat) {x : Int} (hj : j < n) (hx : x = xs.getD j 0) (hl : xs.length = n) : w.cell? ⟨G, j, none⟩ = some (.int .i64 x) := by
 rw [h.cellAt j (by omega), hx]; simp [ints, List.getD, show j < xs.length by omega]
theorem ofLettersOf_any (o : OpD) (w : World) :
  Calls Try.prog 50 #[.agg #[.int .i64 o.kind, .int .i64 o.on, .int .i64 o.arg]] w fun e w' => e = .returned (.int .i64 (ofLettersOf o)) ∧ Below w.heap.size w w' := by
 have b0 : Below w.heap.size w (w.alloc (.cells #[.int .i64 o.kind, .int .i64 o.on, .int .i64 o.arg] 61)) := xA1
 by_cases h0 : o.kind = 8
 ·have HR : Hid (ofLettersOf o = 1) := xH1 (by unfold ofLettersOf; rw [if_pos h0])
  have t0 : (o.kind == 8) = true := by simpa using h0
  clear h0
  go_enter Try.func50, Try.ntmps50
  go_wp2
  go_ret
  exact ⟨ret_int HR.out.symm, b0⟩
 have t0 : (o.kind == 8) = false := by simpa using h0
 by_cases h1 : o.kind = 9
 ·have HR : Hid (ofLettersOf o = -1) := xH1 (by unfold ofLettersOf; rw [if_neg h0, if_pos h1])
  have t1 : (o.kind == 9) = true := by simpa using h1
  clear h1
  go_enter Try.func50, Try.ntmps50
  go_wp2
  go_ret
  exact ⟨ret_int HR.out.symm, b0⟩
 have t1 : (o.kind == 9) = false := by simpa using h1
 have HR : Hid (ofLettersOf o = 0) := xH1 (by unfold ofLettersOf; rw [if_neg h0, if_neg h1])
 clear h0 h1
 go_enter Try.func50, Try.ntmps50
 go_wp2
 go_ret
 exact ⟨ret_int HR.out.symm, b0⟩
theorem implTally_no (g : Nat) (v : PV) (p : Pg) (a : Option Addr) (n c : Nat) (w : World) (hr : RdP w v p) (hz : Small v p) (hv : progValid p = false) :
  Calls Try.prog 37 #[.agg #[.slice v.s v.ns v.cs, .slice v.g v.ng v.cg, .slice v.b v.nb v.cb, .slice v.r v.nr v.cr, .slice v.t v.nt v.ct], .slice a n c, .func (.func g) #[] #[]] w fun e w' => e = .returned (.slice none 0 0) ∧ Below w.heap.size w w' := by
 have hs : v.ns ≤ maxLen ∧ v.ng ≤ maxLen ∧ v.nb ≤ maxLen ∧ v.nr ≤ maxLen := by
  obtain ⟨z1, z2, z3, z4, z5, z6⟩ := hz; unfold maxLen; omega
 have zz : Hid (v.ns ≤ maxLen ∧ v.ng ≤ maxLen ∧ v.nb ≤ maxLen ∧ v.nr ≤ maxLen) := xH1 hs
 have HZ := xH1 hz
 have z5 : v.nt ≤ 1048576 := hz.lt
 have Z6 := xH1 hz.inn
 have ls := xH1 hr.ls
 have lg := xH1 hr.lg
 have lb := xH1 hr.lb
 have lr := xH1 hr.lr
 have lt := xH1 hr.lt
 clear hz
 have B0 : Below w.heap.size w (w.alloc (.cells #[.slice v.s v.ns v.cs, .slice v.g v.ng v.cg, .slice v.b v.nb v.cb, .slice v.r v.nr v.cr, .slice v.t v.nt v.ct] 26)) := xA1
 have k0 : Blk (w.alloc (.cells #[.slice v.s v.ns v.cs, .slice v.g v.ng v.cg, .slice v.b v.nb v.cb, .slice v.r v.nr v.cr, .slice v.t v.nt v.ct] 26)) w.heap.size #[.slice v.s v.ns v.cs, .slice v.g v.ng v.cg, .slice v.b v.nb v.cb, .slice v.r v.nr v.cr, .slice v.t v.nt v.ct] 26 := Blk.new _ _ _
 have q0 : (w.alloc (.cells #[.slice v.s v.ns v.cs, .slice v.g v.ng v.cg, .slice v.b v.nb v.cb, .slice v.r v.nr v.cr, .slice v.t v.nt v.ct] 26)).cell? ⟨w.heap.size, 0, none⟩ = some (.slice v.s v.ns v.cs) := k0.cell 0 rfl
 have q1 : (w.alloc (.cells #[.slice v.s v.ns v.cs, .slice v.g v.ng v.cg, .slice v.b v.nb v.cb, .slice v.r v.nr v.cr, .slice v.t v.nt v.ct] 26)).cell? ⟨w.heap.size, 1, none⟩ = some (.slice v.g v.ng v.cg) := k0.cell 1 rfl
 have q2 : (w.alloc (.cells #[.slice v.s v.ns v.cs, .slice v.g v.ng v.cg, .slice v.b v.nb v.cb, .slice v.r v.nr v.cr, .slice v.t v.nt v.ct] 26)).cell? ⟨w.heap.size, 2, none⟩ = some (.slice v.b v.nb v.cb) := k0.cell 2 rfl
 have q3 : (w.alloc (.cells #[.slice v.s v.ns v.cs, .slice v.g v.ng v.cg, .slice v.b v.nb v.cb, .slice v.r v.nr v.cr, .slice v.t v.nt v.ct] 26)).cell? ⟨w.heap.size, 3, none⟩ = some (.slice v.r v.nr v.cr) := k0.cell 3 rfl
 have q4 : (w.alloc (.cells #[.slice v.s v.ns v.cs, .slice v.g v.ng v.cg, .slice v.b v.nb v.cb, .slice v.r v.nr v.cr, .slice v.t v.nt v.ct] 26)).cell? ⟨w.heap.size, 4, none⟩ = some (.slice v.t v.nt v.ct) := k0.cell 4 rfl
 clear k0
 have HV := xH1 hv
 clear hv
 go_enter Try.func37, Try.ntmps37
 go_wp2_with fail
 refine (implProgValid_any v p _ (hr.below B0) HZ.out).mono ?_
 rintro e w1 ⟨rfl, hb⟩
 rw [HV.out]
 replace q0 := keepc hb q0
 replace q1 := keepc hb q1
 replace q2 := keepc hb q2
 replace q3 := keepc hb q3
 replace q4 := keepc hb q4
 replace B0 := B0.trans (hb.mono B0.size)
 clear hb
 go_wp2
 go_ret
 exact ⟨rfl, B0⟩
theorem implTally_yes (g : Nat) (of : OpD → Int) (v : PV) (p : Pg) (a : Option Addr) (n c : Nat) (start : List Int) (w : World) (eg : ∀ args w, (callFunc g args).run Try.prog w = .ok (.enter g args) w) (hr : RdP w v p) (hz : Small v p) (hv : progValid p = true)
  (hl : start.length = n) (hn : n ≤ 1048576) (ha : Rd w a (ints start)) (hst : ∀ j, -9 ≤ start.getD j 0 ∧ start.getD j 0 ≤ 9)
  (hof : ∀ o w, Calls Try.prog g #[.agg #[.int .i64 o.kind, .int .i64 o.on, .int .i64 o.arg]] w fun e w' => e = .returned (.int .i64 (of o)) ∧ Below w.heap.size w w') (hob : ∀ o, opValid p o = true → (-9 ≤ of o ∧ of o ≤ 9) ∧ (of o ≠ 0 → 0 ≤ o.on ∧ o.on < n)) :
  Calls Try.prog 37 #[.agg #[.slice v.s v.ns v.cs, .slice v.g v.ng v.cg, .slice v.b v.nb v.cb, .slice v.r v.nr v.cr, .slice v.t v.nt v.ct], .slice a n c, .func (.func g) #[] #[]] w fun e w' => ∃ a' c', e = .returned (.slice a' n c') ∧ w'.ownsRow w.heap.size 3 1 (.slice a' n c') n (ints (tallyOf start of p.threads)) ∧ Below w.heap.size w w' := by
 have hs : v.ns ≤ maxLen ∧ v.ng ≤ maxLen ∧ v.nb ≤ maxLen ∧ v.nr ≤ maxLen := by
  obtain ⟨z1, z2, z3, z4, z5, z6⟩ := hz; unfold maxLen; omega
 have zz : Hid (v.ns ≤ maxLen ∧ v.ng ≤ maxLen ∧ v.nb ≤ maxLen ∧ v.nr ≤ maxLen) := xH1 hs
 have HZ := xH1 hz
 have z5 : v.nt ≤ 1048576 := hz.lt
 have Z6 := xH1 hz.inn
 have ls := xH1 hr.ls
 have lg := xH1 hr.lg
 have lb := xH1 hr.lb
 have lr := xH1 hr.lr
 have lt := xH1 hr.lt
 clear hz
 have B0 : Below w.heap.size w (w.alloc (.cells #[.slice v.s v.ns v.cs, .slice v.g v.ng v.cg, .slice v.b v.nb v.cb, .slice v.r v.nr v.cr, .slice v.t v.nt v.ct] 26)) := xA1
 have k0 : Blk (w.alloc (.cells #[.slice v.s v.ns v.cs, .slice v.g v.ng v.cg, .slice v.b v.nb v.cb, .slice v.r v.nr v.cr, .slice v.t v.nt v.ct] 26)) w.heap.size #[.slice v.s v.ns v.cs, .slice v.g v.ng v.cg, .slice v.b v.nb v.cb, .slice v.r v.nr v.cr, .slice v.t v.nt v.ct] 26 := Blk.new _ _ _
 have q0 : (w.alloc (.cells #[.slice v.s v.ns v.cs, .slice v.g v.ng v.cg, .slice v.b v.nb v.cb, .slice v.r v.nr v.cr, .slice v.t v.nt v.ct] 26)).cell? ⟨w.heap.size, 0, none⟩ = some (.slice v.s v.ns v.cs) := k0.cell 0 rfl
 have q1 : (w.alloc (.cells #[.slice v.s v.ns v.cs, .slice v.g v.ng v.cg, .slice v.b v.nb v.cb, .slice v.r v.nr v.cr, .slice v.t v.nt v.ct] 26)).cell? ⟨w.heap.size, 1, none⟩ = some (.slice v.g v.ng v.cg) := k0.cell 1 rfl
 have q2 : (w.alloc (.cells #[.slice v.s v.ns v.cs, .slice v.g v.ng v.cg, .slice v.b v.nb v.cb, .slice v.r v.nr v.cr, .slice v.t v.nt v.ct] 26)).cell? ⟨w.heap.size, 2, none⟩ = some (.slice v.b v.nb v.cb) := k0.cell 2 rfl
 have q3 : (w.alloc (.cells #[.slice v.s v.ns v.cs, .slice v.g v.ng v.cg, .slice v.b v.nb v.cb, .slice v.r v.nr v.cr, .slice v.t v.nt v.ct] 26)).cell? ⟨w.heap.size, 3, none⟩ = some (.slice v.r v.nr v.cr) := k0.cell 3 rfl
 have q4 : (w.alloc (.cells #[.slice v.s v.ns v.cs, .slice v.g v.ng v.cg, .slice v.b v.nb v.cb, .slice v.r v.nr v.cr, .slice v.t v.nt v.ct] 26)).cell? ⟨w.heap.size, 4, none⟩ = some (.slice v.t v.nt v.ct) := k0.cell 4 rfl
 clear k0
 have hln := (valid_threads hv).1
 have HVO : Hid (∀ i k, i < p.threads.length → k < (p.threads.getD i []).length → opValid p ((p.threads.getD i []).getD k noOp) = true) := xH1 (fun i k hi hk => valid_op hv hi hk)
 have HBD : Hid (∀ i k j, i < p.threads.length → k ≤ (p.threads.getD i []).length → -330 ≤ (tallyOf start of (p.threads.take i ++ [(p.threads.getD i []).take k])).getD j 0 ∧ (tallyOf start of (p.threads.take i ++ [(p.threads.getD i []).take k])).getD j 0 ≤ 330) := xH1 (fun i k j hi hk => tally_small hv hi hk (hst j) (fun o ho => (hob o ho).1))
 have HSL := xH1 hl
 have HOB := xH1 hob
 have HV := xH1 hv
 clear hv hst hl hob
 go_enter Try.func37, Try.ntmps37
 replace ha := ha.below B0
 go_wp2_with fail
 refine (implProgValid_any v p _ (hr.below B0) HZ.out).mono ?_
 rintro e w1 ⟨rfl, hb⟩
 rw [HV.out]
 replace q0 := keepc hb q0
 replace q1 := keepc hb q1
 replace q2 := keepc hb q2
 replace q3 := keepc hb q3
 replace q4 := keepc hb q4
 replace B0 := B0.trans (hb.mono B0.size)
 replace ha := ha.below hb
 clear hb
 go_wp2_with fail
 refine (implCloneInts_any a n c start _ HSL.out (by omega) ha).mono ?_
 rintro e w2 ⟨a0, kc, rfl, hown, hb⟩
 have r0 := xH1 (owns_row hown)
 have d4 := keepc hb q4
 go_wp2
 obtain ⟨vs, hT⟩ := hr.rt
 obtain ⟨b1, o1, ea, g1'⟩ := (hT.below B0).thread (by omega)
 rw [ea] at q4 d4
 have HRP : Hid (∀ w', RdP w' v p → RdP w' ⟨v.s, v.ns, v.cs, v.g, v.ng, v.cg, v.b, v.nb, v.cb, v.r, v.nr, v.cr, some ⟨b1, o1, none⟩, v.nt, v.ct⟩ p) := xH1 (by rw [← ea]; exact fun _ h => h)
 have G1 := xH1 g1'
 rw [ea]
 clear g1' ea hT
 go_loopw [21] (fun i wr => ∃ i' : Nat, i' ≤ v.nt ∧ i = .int .i64 i' ∧ wr.ownsRow w1.heap.size 3 1 (.slice a0 n kc) n (ints (tallyOf start of (p.threads.take i'))) ∧ Below w1.heap.size w1 wr) (fun i _ => v.nt - (intOf i).toNat)
 case atStart => exact ⟨0, by omega, rfl, by rw [List.take_zero, tallyOf_nil]; exact hown, hb⟩
 case round =>
  obtain ⟨i, hi, rfl, hownI, hb0⟩ := hrel
  by_cases hlt : i < v.nt
  ·obtain ⟨wo, hwo⟩ : ∃ wo : World, wo = wr := ⟨_, rfl⟩
   rw [← hwo] at hb0 hownI ⊢
   clear hwo wr
   have c0 := keepc hb0 q0
   have c4 := keepc hb0 q4
   obtain ⟨a2, x2, g1, r2⟩ := G1.out i (by have := lt.out; omega)
   obtain ⟨m, hm⟩ : ∃ m, m = (p.threads.getD i []).length := ⟨_, rfl⟩
   rw [← hm] at g1
   replace g1 := keepc hb0 g1
   have hmm := Z6.out i
   rw [← hm] at hmm
   have HM := xH1 hm
   clear hm
   go_wp2
   go_loopw [27] (fun j wk => ∃ k : Nat, k ≤ m ∧ j = .int .i64 k ∧ wk.ownsRow w1.heap.size 3 1 (.slice a0 n kc) n (ints (tallyOf start of (p.threads.take i ++ [(p.threads.getD i []).take k]))) ∧ Below w1.heap.size w1 wk) (fun j _ => m - (intOf j).toNat)
   case atStart => exact ⟨0, by omega, rfl, by rw [List.take_zero, tallyOf_start]; exact hownI, hb0⟩
   case round =>
    obtain ⟨k, hk, rfl, hownK, hbk⟩ := hrel
    by_cases hkl : k < m
    ·obtain ⟨b2, o2, ea2, g2'⟩ := r2.op (by have := HM.out; omega)
     obtain ⟨g2a, g2b, g2c⟩ := g2' k (by have := HM.out; omega)
     obtain ⟨o, ho⟩ : ∃ o, o = (p.threads.getD i []).getD k noOp := ⟨_, rfl⟩
     rw [← ho] at g2a g2b g2c
     replace g2a := keepc hbk g2a
     replace g2b := keepc hbk g2b
     replace g2c := keepc hbk g2c
     have HO := xH1 ho
     subst ea2
     have hop := HVO.out i k (by have := lt.out; omega) (by have := HM.out; omega)
     rw [← ho] at hop
     clear g2' ho
     obtain ⟨⟨f1, f2⟩, f3⟩ := HOB.out o hop
     have F3 := xH1 f3
     have bA : Below wr.heap.size wr (wr.alloc (.cells #[.int .i64 o.kind, .int .i64 o.on, .int .i64 o.arg] 61)) := xA1
     have kA : Blk (wr.alloc (.cells #[.int .i64 o.kind, .int .i64 o.on, .int .i64 o.arg] 61)) wr.heap.size #[.int .i64 o.kind, .int .i64 o.on, .int .i64 o.arg] 61 := Blk.new _ _ _
     have e1 : (wr.alloc (.cells #[.int .i64 o.kind, .int .i64 o.on, .int .i64 o.arg] 61)).cell? ⟨wr.heap.size, 1, none⟩ = some (.int .i64 o.on) := kA.cell 1 rfl
     replace hownK := owns_below hownK bA
     have hbA := hbk.trans (bA.mono hbk.size)
     clear hop kA bA f3
     by_cases hz : of o = 0
     ·have tz : (of o != 0) = false := by simpa using hz
      have HS : Hid (tallyOf start of (p.threads.take i ++ [(p.threads.getD i []).take (k + 1)]) = tallyOf start of (p.threads.take i ++ [(p.threads.getD i []).take k])) := xH1 (tallyOf_skip (by have := HM.out; omega) HO.out.symm hz)
      clear hz e1
      go_wp2_with (go_at_fn g; refine (hof o _).mono ?_; rintro e w3 ⟨rfl, hb3⟩)
      go_roundw
      case rel => exact ⟨k + 1, by omega, by go_num, by rw [HS.out]; exact owns_below hownK hb3, hbA.trans (hb3.mono hbA.size)⟩
      case measure => simp [intOf]; omega
     ·have tz : (of o != 0) = true := by simpa using hz
      obtain ⟨on0, on1⟩ := F3.out hz
      obtain ⟨x, hx⟩ : ∃ x, x = (tallyOf start of (p.threads.take i ++ [(p.threads.getD i []).take k])).getD o.on.toNat 0 := ⟨_, rfl⟩
      have hxb := HBD.out i k o.on.toNat (by have := lt.out; omega) (by have := HM.out; omega)
      rw [← hx] at hxb
      obtain ⟨hx1, hx2⟩ := hxb
      have HS : Hid (tallyOf start of (p.threads.take i ++ [(p.threads.getD i []).take (k + 1)]) = (tallyOf start of (p.threads.take i ++ [(p.threads.getD i []).take k])).set o.on.toNat (x + of o)) := xH1 (by rw [hx]; exact tallyOf_step (by have := HM.out; omega) HO.out.symm on0 (by rw [HSL.out]; exact on1))
      have HL : Hid ((tallyOf start of (p.threads.take i ++ [(p.threads.getD i []).take k])).length = n) := xH1 (by rw [tallyOf_len, HSL.out])
      obtain ⟨L, hL⟩ : ∃ L, L = tallyOf start of (p.threads.take i ++ [(p.threads.getD i []).take k]) := ⟨_, rfl⟩
      rw [← hL] at hx hownK
      have HX := xH1 hx
      have HLL := xH1 hL
      obtain ⟨G, ea0, hG1, hG2⟩ := owns_at hownK (by omega)
      subst ea0
      clear hz hx hL
      go_wp2_with (go_at_fn g; refine (hof o _).mono ?_; rintro e w3 ⟨rfl, hb3⟩; replace e1 := keepc hb3 e1; replace hownK := owns_below hownK hb3; have hcell := own_int hownK o.on.toNat (by omega) HX.out (by rw [HLL.out]; exact HL.out); have hfz := hownK.frozenAt o.on.toNat; have R := owns_store hownK o.on.toNat (.int .i64 (x + of o)) (cs' := ints (L.set o.on.toNat (x + of o))) (by simp [ints, List.map_set]); have HR := xH1 R; clear R hownK)
      go_roundw
      case rel => exact ⟨k + 1, by omega, by go_num, by rw [HS.out, ← HLL.out]; exact HR.out.1, (hbA.trans (hb3.mono hbA.size)).trans (below_of_grown HR.out.2 (hbA.trans (hb3.mono hbA.size)).size (by rintro g hg; cases hg; exact hG1))⟩
      case measure => simp [intOf]; omega
    ·have hkm : k = m := by omega
     subst hkm
     have HS : Hid (tallyOf start of (p.threads.take i ++ [(p.threads.getD i []).take k]) = tallyOf start of (p.threads.take (i + 1))) := xH1 (by rw [HM.out]; exact tallyOf_done start of p.threads i (by have := lt.out; omega))
     go_wp2
     go_roundw
     case rel => exact ⟨i + 1, by omega, by go_num, by rw [← HS.out]; exact hownK, hbk⟩
     case measure => simp [intOf]; omega
  ·have hkm : i = v.nt := by omega
   subst hkm
   have HS : Hid (p.threads.take v.nt = p.threads) := xH1 (by rw [← lt.out, List.take_length])
   have hs1 := B0.size
   go_wp2
   go_ret
   exact ⟨_, _, rfl, by rw [HS.out] at hownI; exact owns_mono hownI hs1, B0.trans (hb0.mono B0.size)⟩









theorem l6Case_any (a : Option Addr) (n c : Nat) (bs : List Int) (w : World) (hC : Code13 w a n c bs) :
  Calls Try.prog 36 #[.slice a n c] w fun e w' => ∃ (v : PV) (vs : List Value) (p : Pg), e = .returned (.agg #[.slice v.s v.ns v.cs, .slice v.g v.ng v.cg, .slice v.b v.nb v.cb, .slice v.r v.nr v.cr, .slice v.t v.nt v.ct]) ∧ Own w' w.heap.size v vs p 10 ∧ Below w.heap.size w w' := by
 have b0 : Below w.heap.size w (w.alloc (.cells #[.slice none 0 0, .slice none 0 0, .slice none 0 0, .slice none 0 0, .slice none 0 0] 26)) := xA1
 have k0 : Blk (w.alloc (.cells #[.slice none 0 0, .slice none 0 0, .slice none 0 0, .slice none 0 0, .slice none 0 0] 26)) w.heap.size #[.slice none 0 0, .slice none 0 0, .slice none 0 0, .slice none 0 0, .slice none 0 0] 26 := Blk.new _ _ _
 have s0 : (w.alloc (.cells #[.slice none 0 0, .slice none 0 0, .slice none 0 0, .slice none 0 0, .slice none 0 0] 26)).heap.size = w.heap.size + 1 := by simp
 have hC0 := hC.below b0
 go_enter Try.func36, Try.ntmps36
 go_wp2_with fail
 refine hC0.open.mono ?_
 rintro e w1 ⟨rfl, n', bs', r1, b1, s1⟩
 have k1 := k0.below b1
 have HB1 := xH1 (b0.trans (b1.mono b0.size))
 rw [s0] at r1 s1
 have HS1 := xH1 s1
 clear b0 k0 b1 hC hC0 s1
 rw [s0]
 clear s0
 go_wp2_with fail
 refine (l6Draw_any (w.heap.size + 1) a n' c bs' 0 w1 r1 (by omega)).mono ?_
 rintro e w2 ⟨v, vs, p, pos', rfl, o2, f2, z2, r2, hp2, g2⟩
 have s1 := HS1.out
 have s2 := g2.size
 have k2 := k1.grown g2 (by simp)
 have HB2 := xH1 (HB1.out.trans (below_of_grown g2 (by omega) (fun i e => by cases e; omega)))
 clear r1 g2 k1
 go_wp2_with fail
 refine (l6Wrong_any (w.heap.size + 1) a n' c bs' pos' v p 9 w2 r2 (by omega) o2.rd z2 (by omega)).mono ?_
 rintro e w3 ⟨v', vs', p', pos3, rfl, o3, f3, z3, r3, hp3, g3⟩
 have s3 := g3.size
 have s3a : w.heap.size + 2 ≤ w3.heap.size := by omega
 have k3 := k2.grown g3 (by simp)
 have HB3 := xH1 (HB2.out.trans (below_of_grown g3 (by omega) (fun i e => by cases e; omega)))
 have HO : Hid (Own w3 (w.heap.size + 1) v' vs' p' 10) := xH1 ⟨o3, fun q hq => by have := f3 q hq; omega, z3⟩
 clear r2 r3 g3 k2 o2 f2 z2 o3 f3 z3 HS1 s1
 have y0 := k3.cell 0 rfl
 have x0 := k3.fz 0
 have y1 := k3.cell 1 rfl
 have x1 := k3.fz 1
 have y2 := k3.cell 2 rfl
 have x2 := k3.fz 2
 have y3 := k3.cell 3 rfl
 have x3 := k3.fz 3
 have y4 := k3.cell 4 rfl
 have x4 := k3.fz 4
 have hz5 : w3.grownBy ((((((w3).setCell ⟨w.heap.size, 0, none⟩ (.slice v'.s v'.ns v'.cs)).setCell ⟨w.heap.size, 1, none⟩ (.slice v'.g v'.ng v'.cg)).setCell ⟨w.heap.size, 2, none⟩ (.slice v'.b v'.nb v'.cb)).setCell ⟨w.heap.size, 3, none⟩ (.slice v'.r v'.nr v'.cr)).setCell ⟨w.heap.size, 4, none⟩ (.slice v'.t v'.nt v'.ct)) (some (w.heap.size)) := grown_trans (grown_trans (grown_trans (grown_trans (grown_set _ _ _ _) (grown_set _ _ _ _)) (grown_set _ _ _ _)) (grown_set _ _ _ _)) (grown_set _ _ _ _)
 have HZ5 := xH1 hz5
 clear hz5
 go_wp2
 refine bodyPost_ret (v := .agg #[.slice v'.s v'.ns v'.cs, .slice v'.g v'.ng v'.cg, .slice v'.b v'.nb v'.cb, .slice v'.r v'.nr v'.cr, .slice v'.t v'.nt v'.ct]) (by simp [results, Try.results36, go_sem, y0, y1, y2, y3, y4]) rfl ⟨v', vs', p', rfl, (HO.out.gr HZ5.out (by omega)).mono (by omega), HB3.out.trans (below_of_grown HZ5.out (by omega) (fun i e => by cases e; omega))⟩
end Go.Proofs.Ytoeockmkhpehbaa
namespace Go.Proofs.Ytoeockmkhpehbaa
open Go.RowKit Go.Sort
theorem drawLettersOf_any (a : Option Addr) (n c : Nat) (bs : List Int) (w : World) (hC : Code13 w a n c bs) :
  Calls Try.prog 20 #[.slice a n c] w fun e w' => ∃ (v : PV) (vs : List Value) (p : Pg), e = .returned (.agg #[.slice v.s v.ns v.cs, .slice v.g v.ng v.cg, .slice v.b v.nb v.cb, .slice v.r v.nr v.cr, .slice v.t v.nt v.ct]) ∧ Own w' w.heap.size v vs p 10 ∧ Below w.heap.size w w' := by
 have b0 : Below w.heap.size w (w.alloc (.cells #[.slice none 0 0, .slice none 0 0, .slice none 0 0, .slice none 0 0, .slice none 0 0] 26)) := xA1
 have k0 : Blk (w.alloc (.cells #[.slice none 0 0, .slice none 0 0, .slice none 0 0, .slice none 0 0, .slice none 0 0] 26)) w.heap.size #[.slice none 0 0, .slice none 0 0, .slice none 0 0, .slice none 0 0, .slice none 0 0] 26 := Blk.new _ _ _
 have s0 : (w.alloc (.cells #[.slice none 0 0, .slice none 0 0, .slice none 0 0, .slice none 0 0, .slice none 0 0] 26)).heap.size = w.heap.size + 1 := by simp
 have hC0 := hC.below b0
 go_enter Try.func20, Try.ntmps20
 go_wp2_with fail
 refine (l6Case_any a n c bs _ hC0).mono ?_
 rintro e w1 ⟨v, vs, p, rfl, o1, b1⟩
 have k1 := k0.below b1
 have hz := b1.size
 rw [s0] at hz o1
 have HO := xH1 o1
 have HB1 := xH1 (b0.trans (b1.mono b0.size))
 clear b0 k0 b1 hC hC0 o1 s0
 have y0 := k1.cell 0 rfl
 have x0 := k1.fz 0
 have y1 := k1.cell 1 rfl
 have x1 := k1.fz 1
 have y2 := k1.cell 2 rfl
 have x2 := k1.fz 2
 have y3 := k1.cell 3 rfl
 have x3 := k1.fz 3
 have y4 := k1.cell 4 rfl
 have x4 := k1.fz 4
 have hz5 : w1.grownBy ((((((w1).setCell ⟨w.heap.size, 0, none⟩ (.slice v.s v.ns v.cs)).setCell ⟨w.heap.size, 1, none⟩ (.slice v.g v.ng v.cg)).setCell ⟨w.heap.size, 2, none⟩ (.slice v.b v.nb v.cb)).setCell ⟨w.heap.size, 3, none⟩ (.slice v.r v.nr v.cr)).setCell ⟨w.heap.size, 4, none⟩ (.slice v.t v.nt v.ct)) (some (w.heap.size)) := grown_trans (grown_trans (grown_trans (grown_trans (grown_set _ _ _ _) (grown_set _ _ _ _)) (grown_set _ _ _ _)) (grown_set _ _ _ _)) (grown_set _ _ _ _)
 have HZ5 := xH1 hz5
 clear hz5
 go_wp2
 refine bodyPost_ret (v := .agg #[.slice v.s v.ns v.cs, .slice v.g v.ng v.cg, .slice v.b v.nb v.cb, .slice v.r v.nr v.cr, .slice v.t v.nt v.ct]) (by simp [results, Try.results20, go_sem, y0, y1, y2, y3, y4]) rfl ⟨v, vs, p, rfl, (HO.out.gr HZ5.out (by omega)).mono (by omega), HB1.out.trans (below_of_grown HZ5.out (by omega) (fun i e => by cases e; omega))⟩
end Go.Proofs.Ytoeockmkhpehbaa
namespace Go.Proofs.Ytoeockmkhpehbaa
open Go.RowKit
instance : DecidableEq OpD := fun a b => decidable_of_iff (a.kind = b.kind ∧ a.on = b.on ∧ a.arg = b.arg) (by cases a; cases b; simp)
instance : DecidableEq Pg := fun a b => decidable_of_iff (a.sems = b.sems ∧ a.groups = b.groups ∧ a.barriers = b.barriers ∧ a.rooms = b.rooms ∧ a.threads = b.threads) (by cases a; cases b; simp)
theorem ext_getD_of {α : Type} (d : α) {xs ys : List α} (hl : xs.length = ys.length) (h : ∀ j, j < xs.length → xs.getD j d = ys.getD j d) : xs = ys := by
 refine List.ext_getElem hl fun j h1 h2 => ?_
 have := h j h1
 simpa [List.getD, h1, h2] using this


theorem sums_small {p : Pg} {of : OpD → Int} (hv : progValid p = true) {i k j : Nat} (hi : i < p.threads.length) (hk : k ≤ (p.threads.getD i []).length) (hob : ∀ o, opValid p o = true → -9 ≤ of o ∧ of o ≤ 9) :
  -330 ≤ sumsAt of j (p.threads.take i) + sumAt of j ((p.threads.getD i []).take k) ∧ sumsAt of j (p.threads.take i) + sumAt of j ((p.threads.getD i []).take k) ≤ 330 := by
 have h := tally_small (start := List.replicate (j + 1) 0) (j := j) hv hi hk (by simp [List.getD]) hob
 have e0 : (List.replicate (j + 1) (0 : Int)).getD j 0 = 0 := by simp [List.getD]
 rw [tallyOf_get _ _ _ _ (by simp), sumsAt_append, e0] at h
 simp only [sumsAt] at h
 omega
theorem sumsAt_done (of : OpD → Int) (j : Nat) (ts : List (List OpD)) (i : Nat) (hi : i < ts.length) : sumsAt of j (ts.take i) + sumAt of j ((ts.getD i []).take (ts.getD i []).length) = sumsAt of j (ts.take (i + 1)) := by
 rw [List.take_length, sumsAt_take of j ts i hi]
theorem l10Sum_false (v : PV) (p : Pg) (kind : Int) (on : Nat) (w : World) (hr : RdP w v p) (hz : Small v p) (hv : progValid p = true) (hob : ∀ o, opValid p o = true → -9 ≤ ofKind kind false o ∧ ofKind kind false o ≤ 9) :
  Calls Try.prog 40 #[.agg #[.slice v.s v.ns v.cs, .slice v.g v.ng v.cg, .slice v.b v.nb v.cb, .slice v.r v.nr v.cr, .slice v.t v.nt v.ct], .int .i64 kind, .int .i64 on, .bool false] w fun e w' => e = .returned (.int .i64 (sumsAt (ofKind kind false) on p.threads)) ∧ Below w.heap.size w w' := by
 have hs : v.ns ≤ maxLen ∧ v.ng ≤ maxLen ∧ v.nb ≤ maxLen ∧ v.nr ≤ maxLen := by
  obtain ⟨z1, z2, z3, z4, z5, z6⟩ := hz; unfold maxLen; omega
 have zz : Hid (v.ns ≤ maxLen ∧ v.ng ≤ maxLen ∧ v.nb ≤ maxLen ∧ v.nr ≤ maxLen) := xH1 hs
 have HZ := xH1 hz
 have z5 : v.nt ≤ 1048576 := hz.lt
 have Z6 := xH1 hz.inn
 have ls := xH1 hr.ls
 have lg := xH1 hr.lg
 have lb := xH1 hr.lb
 have lr := xH1 hr.lr
 have lt := xH1 hr.lt
 clear hz
 have B0 : Below w.heap.size w (w.alloc (.cells #[.slice v.s v.ns v.cs, .slice v.g v.ng v.cg, .slice v.b v.nb v.cb, .slice v.r v.nr v.cr, .slice v.t v.nt v.ct] 26)) := xA1
 have k0 : Blk (w.alloc (.cells #[.slice v.s v.ns v.cs, .slice v.g v.ng v.cg, .slice v.b v.nb v.cb, .slice v.r v.nr v.cr, .slice v.t v.nt v.ct] 26)) w.heap.size #[.slice v.s v.ns v.cs, .slice v.g v.ng v.cg, .slice v.b v.nb v.cb, .slice v.r v.nr v.cr, .slice v.t v.nt v.ct] 26 := Blk.new _ _ _
 have q0 : (w.alloc (.cells #[.slice v.s v.ns v.cs, .slice v.g v.ng v.cg, .slice v.b v.nb v.cb, .slice v.r v.nr v.cr, .slice v.t v.nt v.ct] 26)).cell? ⟨w.heap.size, 0, none⟩ = some (.slice v.s v.ns v.cs) := k0.cell 0 rfl
 have q1 : (w.alloc (.cells #[.slice v.s v.ns v.cs, .slice v.g v.ng v.cg, .slice v.b v.nb v.cb, .slice v.r v.nr v.cr, .slice v.t v.nt v.ct] 26)).cell? ⟨w.heap.size, 1, none⟩ = some (.slice v.g v.ng v.cg) := k0.cell 1 rfl
 have q2 : (w.alloc (.cells #[.slice v.s v.ns v.cs, .slice v.g v.ng v.cg, .slice v.b v.nb v.cb, .slice v.r v.nr v.cr, .slice v.t v.nt v.ct] 26)).cell? ⟨w.heap.size, 2, none⟩ = some (.slice v.b v.nb v.cb) := k0.cell 2 rfl
 have q3 : (w.alloc (.cells #[.slice v.s v.ns v.cs, .slice v.g v.ng v.cg, .slice v.b v.nb v.cb, .slice v.r v.nr v.cr, .slice v.t v.nt v.ct] 26)).cell? ⟨w.heap.size, 3, none⟩ = some (.slice v.r v.nr v.cr) := k0.cell 3 rfl
 have q4 : (w.alloc (.cells #[.slice v.s v.ns v.cs, .slice v.g v.ng v.cg, .slice v.b v.nb v.cb, .slice v.r v.nr v.cr, .slice v.t v.nt v.ct] 26)).cell? ⟨w.heap.size, 4, none⟩ = some (.slice v.t v.nt v.ct) := k0.cell 4 rfl
 clear k0
 have hln := (valid_threads hv).1
 have HBD : Hid (∀ i k, i < p.threads.length → k ≤ (p.threads.getD i []).length → -330 ≤ sumsAt (ofKind kind false) on (p.threads.take i) + sumAt (ofKind kind false) on ((p.threads.getD i []).take k) ∧ sumsAt (ofKind kind false) on (p.threads.take i) + sumAt (ofKind kind false) on ((p.threads.getD i []).take k) ≤ 330) := xH1 (fun i k hi hk => sums_small hv hi hk hob)
 have HVO : Hid (∀ i k, i < p.threads.length → k < (p.threads.getD i []).length → -9 ≤ ofKind kind false ((p.threads.getD i []).getD k noOp) ∧ ofKind kind false ((p.threads.getD i []).getD k noOp) ≤ 9) := xH1 (fun i k hi hk => hob _ (valid_op hv hi hk))
 clear hv hob
 go_enter Try.func40, Try.ntmps40
 go_wp2
 obtain ⟨W0, hW0⟩ : ∃ W0 : World, W0 = (w.alloc (.cells #[.slice v.s v.ns v.cs, .slice v.g v.ng v.cg, .slice v.b v.nb v.cb, .slice v.r v.nr v.cr, .slice v.t v.nt v.ct] 26)) := ⟨_, rfl⟩
 rw [← hW0] at B0 q0 q1 q2 q3 q4 ⊢
 clear hW0
 obtain ⟨vs, hT⟩ := hr.rt
 obtain ⟨b1, o1, ea, g1'⟩ := (hT.below B0).thread (by omega)
 rw [ea] at q4
 have HRP : Hid (∀ w', RdP w' v p → RdP w' ⟨v.s, v.ns, v.cs, v.g, v.ng, v.cg, v.b, v.nb, v.cb, v.r, v.nr, v.cr, some ⟨b1, o1, none⟩, v.nt, v.ct⟩ p) := xH1 (by rw [← ea]; exact fun _ h => h)
 have G1 := xH1 g1'
 clear g1' ea hT
 go_loopw [9, 10] (fun sv i wr => ∃ (i' : Nat) (s : Int), i' ≤ v.nt ∧ i = .int .i64 i' ∧ sv = .int .i64 s ∧ Hid (s = sumsAt (ofKind kind false) on (p.threads.take i')) ∧ Below W0.heap.size W0 wr) (fun _ i _ => v.nt - (intOf i).toNat)
 case atStart => exact ⟨0, 0, by omega, rfl, rfl, xH1 (by simp [sumsAt]), Below.refl _ _⟩
 case round =>
  obtain ⟨i, s, hi, rfl, rfl, hs0, hb0⟩ := hrel
  have c4 := keepc hb0 q4
  by_cases hlt : i < v.nt
  ·obtain ⟨wo, hwo⟩ : ∃ wo : World, wo = wr := ⟨_, rfl⟩
   rw [← hwo] at hb0 c4 ⊢
   clear hwo wr
   obtain ⟨a2, x2, g1, r2⟩ := G1.out i (by have := lt.out; omega)
   obtain ⟨m, hm⟩ : ∃ m, m = (p.threads.getD i []).length := ⟨_, rfl⟩
   rw [← hm] at g1
   have hmm := Z6.out i
   rw [← hm] at hmm
   have HM := xH1 hm
   clear hm
   go_wp2
   go_loopw [9, 11] (fun sv j wk => ∃ (k : Nat) (s : Int), k ≤ m ∧ j = .int .i64 k ∧ sv = .int .i64 s ∧ Hid (s = sumsAt (ofKind kind false) on (p.threads.take i) + sumAt (ofKind kind false) on ((p.threads.getD i []).take k)) ∧ Below W0.heap.size W0 wk) (fun _ j _ => m - (intOf j).toNat)
   case atStart => exact ⟨0, s, by omega, rfl, rfl, xH1 (by rw [hs0.out]; simp [sumAt]), hb0⟩
   case round =>
    obtain ⟨k, s, hk, rfl, rfl, hs1, hbk⟩ := hrel
    have d4 := keepc hbk q4
    have f1 := keepc hbk g1
    by_cases hkl : k < m
    ·obtain ⟨b2, o2, ea2, g2'⟩ := r2.op (by have := HM.out; omega)
     obtain ⟨g2a, g2b, g2c⟩ := g2' k (by have := HM.out; omega)
     obtain ⟨o, ho⟩ : ∃ o, o = (p.threads.getD i []).getD k noOp := ⟨_, rfl⟩
     rw [← ho] at g2a g2b g2c
     replace g2a := keepc hbk g2a
     replace g2b := keepc hbk g2b
     replace g2c := keepc hbk g2c
     subst ea2
     have hvo := HVO.out i k (by have := lt.out; omega) (by have := HM.out; omega)
     rw [← ho] at hvo
     obtain ⟨hv1, hv2⟩ := hvo
     have hbd := HBD.out i k (by have := lt.out; omega) (by have := HM.out; omega)
     rw [← hs1.out] at hbd
     obtain ⟨hs2, hs3⟩ := hbd
     have HN : Hid (sumsAt (ofKind kind false) on (p.threads.take i) + sumAt (ofKind kind false) on ((p.threads.getD i []).take (k + 1)) = s + if o.on = on then ofKind kind false o else 0) := xH1 (by rw [hs1.out, sumAt_take _ _ _ _ (by have := HM.out; omega), ← ho]; omega)
     have bA : Below wr.heap.size wr (wr.alloc (.cells #[.int .i64 o.kind, .int .i64 o.on, .int .i64 o.arg] 61)) := xA1
     have hbA := hbk.trans (bA.mono hbk.size)
     clear g2' ho
     by_cases h1 : o.kind = kind
     ·by_cases h2 : o.on = on
      ·have t1 : (o.kind != kind) = false := by simpa using h1
       have t2 : (o.on != on) = false := by simpa using h2
       have HK : Hid (ofKind kind false o = 1) := xH1 (by unfold ofKind; rw [if_pos h1]; rfl)
       rw [HK.out] at hv1 hv2
       have HN2 : Hid (s + 1 = sumsAt (ofKind kind false) on (p.threads.take i) + sumAt (ofKind kind false) on ((p.threads.getD i []).take (k + 1))) := xH1 (by rw [HN.out, if_pos h2, HK.out])
       clear h1 h2
       go_wp2
       go_roundw
       case rel => exact ⟨k + 1, s + 1, by omega, by go_num, rfl, xH1 HN2.out, hbA⟩
       case measure => simp [intOf]; omega
      ·have t1 : (o.kind != kind) = false := by simpa using h1
       have t2 : (o.on != on) = true := by simpa using h2
       have HN2 : Hid (s = sumsAt (ofKind kind false) on (p.threads.take i) + sumAt (ofKind kind false) on ((p.threads.getD i []).take (k + 1))) := xH1 (by rw [HN.out, if_neg h2]; omega)
       clear h1 h2
       go_wp2
       go_roundw
       case rel => exact ⟨k + 1, s, by omega, by go_num, rfl, xH1 HN2.out, hbA⟩
       case measure => simp [intOf]; omega
     ·have t1 : (o.kind != kind) = true := by simpa using h1
      have HN2 : Hid (s = sumsAt (ofKind kind false) on (p.threads.take i) + sumAt (ofKind kind false) on ((p.threads.getD i []).take (k + 1))) := xH1 (by rw [HN.out]; unfold ofKind; rw [if_neg h1]; split <;> omega)
      clear h1
      go_wp2
      go_roundw
      case rel => exact ⟨k + 1, s, by omega, by go_num, rfl, xH1 HN2.out, hbA⟩
      case measure => simp [intOf]; omega
    ·have hkm : k = m := by omega
     subst hkm
     have HS : Hid (s = sumsAt (ofKind kind false) on (p.threads.take (i + 1))) := xH1 (by rw [hs1.out, HM.out]; exact sumsAt_done _ _ _ _ (by have := lt.out; omega))
     go_wp2
     go_roundw
     case rel => exact ⟨i + 1, s, by omega, by go_num, rfl, xH1 HS.out, hbk⟩
     case measure => simp [intOf]; omega
  ·have hkm : i = v.nt := by omega
   subst hkm
   have HS : Hid (s = sumsAt (ofKind kind false) on p.threads) := xH1 (by rw [hs0.out, ← lt.out, List.take_length])
   go_wp2
   go_ret
   exact ⟨ret_int HS.out, B0.trans (hb0.mono B0.size)⟩
def groupsLeft (p : Pg) : List Int := if progValid p = true then tallyOf p.groups ofGroupsLeft p.threads else []
def arrivalsOf (p : Pg) : List Int := if progValid p = true then tallyOf (List.replicate p.barriers.length 0) ofArrivalsOf p.threads else []
def lettersOf (p : Pg) : List Int := if progValid p = true then tallyOf (List.replicate p.rooms.length 0) ofLettersOf p.threads else []
theorem lettersOf_len {v : PV} {p : Pg} {w : World} (hr : RdP w v p) (hz : Small v p) : (lettersOf p).length ≤ 1048576 := by
 unfold lettersOf; split
 ·rw [tallyOf_len, List.length_replicate, hr.lr]; exact hz.lr
 ·simp
theorem rep_getD (n j : Nat) : -9 ≤ (List.replicate n (0 : Int)).getD j 0 ∧ (List.replicate n (0 : Int)).getD j 0 ≤ 9 := by
 have : (List.replicate n (0 : Int)).getD j 0 = 0 := by simp only [List.getD, List.getElem?_replicate]; split <;> rfl
 rw [this]; omega
theorem valid_on {p : Pg} {o : OpD} (ho : opValid p o = true) : 0 ≤ o.on ∧ o.on < shared p o.kind := (opValid_facts ho).2.1
theorem shared8 {p : Pg} {k : Int} (h : k = 8 ∨ k = 9) : shared p k = p.rooms.length := by unfold shared; rw [if_neg (by omega), if_neg (by omega), if_neg (by omega), if_neg (by omega), if_neg (by omega)]
theorem obLettersOf {p : Pg} (o : OpD) (ho : opValid p o = true) : (-9 ≤ ofLettersOf o ∧ ofLettersOf o ≤ 9) ∧ (ofLettersOf o ≠ 0 → 0 ≤ o.on ∧ o.on < p.rooms.length) := by
 unfold ofLettersOf
 by_cases h8 : o.kind = 8
 ·rw [if_pos h8]
  exact ⟨by omega, fun _ => by rw [← shared8 (.inl h8)]; exact valid_on ho⟩
 ·rw [if_neg h8]
  by_cases h9 : o.kind = 9
  ·rw [if_pos h9]
   exact ⟨by omega, fun _ => by rw [← shared8 (.inr h9)]; exact valid_on ho⟩
  ·rw [if_neg h9]; simp
theorem implLettersOf_any (n : Nat) (v : PV) (p : Pg) (w : World) (hn : (lettersOf p).length = n) (hr : RdP w v p) (hz : Small v p) :
  Calls Try.prog 21 #[.agg #[.slice v.s v.ns v.cs, .slice v.g v.ng v.cg, .slice v.b v.nb v.cb, .slice v.r v.nr v.cr, .slice v.t v.nt v.ct]] w fun e w' => ∃ a' c', e = .returned (.slice a' n c') ∧ w'.ownsRow w.heap.size 3 1 (.slice a' n c') n (ints (lettersOf p)) ∧ Below w.heap.size w w' := by
 have hs : v.ns ≤ maxLen ∧ v.ng ≤ maxLen ∧ v.nb ≤ maxLen ∧ v.nr ≤ maxLen := by
  obtain ⟨z1, z2, z3, z4, z5, z6⟩ := hz; unfold maxLen; omega
 have zz : Hid (v.ns ≤ maxLen ∧ v.ng ≤ maxLen ∧ v.nb ≤ maxLen ∧ v.nr ≤ maxLen) := xH1 hs
 have HZ := xH1 hz
 have z5 : v.nt ≤ 1048576 := hz.lt
 have Z6 := xH1 hz.inn
 have ls := xH1 hr.ls
 have lg := xH1 hr.lg
 have lb := xH1 hr.lb
 have lr := xH1 hr.lr
 have lt := xH1 hr.lt
 clear hz
 have B0 : Below w.heap.size w (w.alloc (.cells #[.slice v.s v.ns v.cs, .slice v.g v.ng v.cg, .slice v.b v.nb v.cb, .slice v.r v.nr v.cr, .slice v.t v.nt v.ct] 26)) := xA1
 have k0 : Blk (w.alloc (.cells #[.slice v.s v.ns v.cs, .slice v.g v.ng v.cg, .slice v.b v.nb v.cb, .slice v.r v.nr v.cr, .slice v.t v.nt v.ct] 26)) w.heap.size #[.slice v.s v.ns v.cs, .slice v.g v.ng v.cg, .slice v.b v.nb v.cb, .slice v.r v.nr v.cr, .slice v.t v.nt v.ct] 26 := Blk.new _ _ _
 have q0 : (w.alloc (.cells #[.slice v.s v.ns v.cs, .slice v.g v.ng v.cg, .slice v.b v.nb v.cb, .slice v.r v.nr v.cr, .slice v.t v.nt v.ct] 26)).cell? ⟨w.heap.size, 0, none⟩ = some (.slice v.s v.ns v.cs) := k0.cell 0 rfl
 have q1 : (w.alloc (.cells #[.slice v.s v.ns v.cs, .slice v.g v.ng v.cg, .slice v.b v.nb v.cb, .slice v.r v.nr v.cr, .slice v.t v.nt v.ct] 26)).cell? ⟨w.heap.size, 1, none⟩ = some (.slice v.g v.ng v.cg) := k0.cell 1 rfl
 have q2 : (w.alloc (.cells #[.slice v.s v.ns v.cs, .slice v.g v.ng v.cg, .slice v.b v.nb v.cb, .slice v.r v.nr v.cr, .slice v.t v.nt v.ct] 26)).cell? ⟨w.heap.size, 2, none⟩ = some (.slice v.b v.nb v.cb) := k0.cell 2 rfl
 have q3 : (w.alloc (.cells #[.slice v.s v.ns v.cs, .slice v.g v.ng v.cg, .slice v.b v.nb v.cb, .slice v.r v.nr v.cr, .slice v.t v.nt v.ct] 26)).cell? ⟨w.heap.size, 3, none⟩ = some (.slice v.r v.nr v.cr) := k0.cell 3 rfl
 have q4 : (w.alloc (.cells #[.slice v.s v.ns v.cs, .slice v.g v.ng v.cg, .slice v.b v.nb v.cb, .slice v.r v.nr v.cr, .slice v.t v.nt v.ct] 26)).cell? ⟨w.heap.size, 4, none⟩ = some (.slice v.t v.nt v.ct) := k0.cell 4 rfl
 clear k0
 obtain ⟨i0, hi0, hz0, hz1, hz2⟩ := info_parts info_int
 have hnb : v.nr ≤ 1048576 := HZ.out.lr
 have hmk : ∀ w', (Instr.makeSlice 23 (.int .i64 (v.nr : Nat)) (.int .i64 (v.nr : Nat))).run Try.prog w' = .ok (.slice (some ⟨w'.heap.size, 0, none⟩) v.nr v.nr) (w'.alloc (.cells (madeCells #[.int .i64 0] v.nr) 3)) := fun w' => by
  have := run_make (P := Try.prog) w' 23 3 i0 (.int .i64 0) Try.underlying23 hi0 hz0 .i64 .i64 (v.nr : Nat) (v.nr : Nat) (by omega) (by omega) (by rw [hz2]; omega) (by omega)
  rw [hz1, show (Value.int .i64 0).cells = #[.int .i64 0] from rfl] at this
  simpa using this
 have hmd : (madeCells #[.int .i64 0] v.nr).toList = ints (List.replicate v.nr 0) := by rw [toList_madeCells_one]; simp [ints]
 have HMD := xH1 hmd
 clear hmd
 rcases Bool.eq_false_or_eq_true (progValid p) with hv | hv
 ·have HB : Hid (lettersOf p = tallyOf (List.replicate v.nr 0) ofLettersOf p.threads) := xH1 (by unfold lettersOf; rw [if_pos hv, hr.lr])
  obtain rfl : n = v.nr := by rw [← hn, HB.out, tallyOf_len, List.length_replicate]
  rw [HB.out]
  clear hn
  have HV := xH1 hv
  clear hv
  go_enter Try.func21, Try.ntmps21
  go_wp2
  obtain ⟨W0, hW0⟩ : ∃ W0 : World, W0 = (w.alloc (.cells #[.slice v.s v.ns v.cs, .slice v.g v.ng v.cg, .slice v.b v.nb v.cb, .slice v.r v.nr v.cr, .slice v.t v.nt v.ct] 26)) := ⟨_, rfl⟩
  rw [← hW0] at B0 q0 q1 q2 q3 q4 ⊢
  clear hW0
  have hS : ∀ w', Below W0.heap.size W0 w' → (w'.cell? ⟨w.heap.size, 0, none⟩ = some (.slice v.s v.ns v.cs) ∧ w'.cell? ⟨w.heap.size, 1, none⟩ = some (.slice v.g v.ng v.cg) ∧ w'.cell? ⟨w.heap.size, 2, none⟩ = some (.slice v.b v.nb v.cb) ∧ w'.cell? ⟨w.heap.size, 3, none⟩ = some (.slice v.r v.nr v.cr) ∧ w'.cell? ⟨w.heap.size, 4, none⟩ = some (.slice v.t v.nt v.ct)) ∧ Below W0.heap.size W0 w' := fun w' hb => ⟨⟨keepc hb q0, keepc hb q1, keepc hb q2, keepc hb q3, keepc hb q4⟩, hb⟩
  have hs1 := B0.size
  go_region_held3 (fun w' => (w'.cell? ⟨w.heap.size, 0, none⟩ = some (.slice v.s v.ns v.cs) ∧ w'.cell? ⟨w.heap.size, 1, none⟩ = some (.slice v.g v.ng v.cg) ∧ w'.cell? ⟨w.heap.size, 2, none⟩ = some (.slice v.b v.nb v.cb) ∧ w'.cell? ⟨w.heap.size, 3, none⟩ = some (.slice v.r v.nr v.cr) ∧ w'.cell? ⟨w.heap.size, 4, none⟩ = some (.slice v.t v.nt v.ct)) ∧ Below W0.heap.size W0 w') (first | exact hS _ (xB1.drew) | exact hS _ ((xB1.drew).alloc (by simp) _) | exact hS _ (keepb (by assumption) (by assumption))) (first | (go_at_call 37; refine (implTally_yes _ ofLettersOf v p _ v.nr v.nr (List.replicate v.nr 0) _ (enters_of Try.func50 (by kernel_rfl) rfl) (hr.below (B0.trans ((And.right (by assumption : _ ∧ Below W0.heap.size W0 _)).mono B0.size))) HZ.out HV.out List.length_replicate HZ.out.lr (by have h := Rd.of_owns (World.ownsRow_lit (base := 0) (e := 3) (size := 1) W0.drew (madeCells #[.int .i64 0] v.nr) v.nr (Nat.zero_le _) (by unfold maxLen; omega) (by simp [madeCells])); rw [HMD.out] at h; exact h) (rep_getD _) (fun o w => ofLettersOf_any o w) (fun o ho => by have := obLettersOf (p := p) o ho; rw [lr.out] at this; exact this)).mono ?_; rintro e w1 ⟨a1, c1, rfl, hown, hb⟩))
  rename_i hSw
  have hb2 := hSw.2
  clear hSw hS hb
  go_wp2
  go_ret
  exact ⟨a1, c1, rfl, owns_mono hown (by simp; omega), B0.trans (hb2.mono hs1)⟩
 ·have HB : Hid (lettersOf p = []) := xH1 (by unfold lettersOf; rw [if_neg (by rw [hv]; simp)])
  rw [HB.out] at hn ⊢
  obtain rfl : n = 0 := hn.symm
  have HV := xH1 hv
  clear hv
  go_enter Try.func21, Try.ntmps21
  go_wp2
  obtain ⟨W0, hW0⟩ : ∃ W0 : World, W0 = (w.alloc (.cells #[.slice v.s v.ns v.cs, .slice v.g v.ng v.cg, .slice v.b v.nb v.cb, .slice v.r v.nr v.cr, .slice v.t v.nt v.ct] 26)) := ⟨_, rfl⟩
  rw [← hW0] at B0 q0 q1 q2 q3 q4 ⊢
  clear hW0
  have hS : ∀ w', Below W0.heap.size W0 w' → (w'.cell? ⟨w.heap.size, 0, none⟩ = some (.slice v.s v.ns v.cs) ∧ w'.cell? ⟨w.heap.size, 1, none⟩ = some (.slice v.g v.ng v.cg) ∧ w'.cell? ⟨w.heap.size, 2, none⟩ = some (.slice v.b v.nb v.cb) ∧ w'.cell? ⟨w.heap.size, 3, none⟩ = some (.slice v.r v.nr v.cr) ∧ w'.cell? ⟨w.heap.size, 4, none⟩ = some (.slice v.t v.nt v.ct)) ∧ Below W0.heap.size W0 w' := fun w' hb => ⟨⟨keepc hb q0, keepc hb q1, keepc hb q2, keepc hb q3, keepc hb q4⟩, hb⟩
  go_region_held3 (fun w' => (w'.cell? ⟨w.heap.size, 0, none⟩ = some (.slice v.s v.ns v.cs) ∧ w'.cell? ⟨w.heap.size, 1, none⟩ = some (.slice v.g v.ng v.cg) ∧ w'.cell? ⟨w.heap.size, 2, none⟩ = some (.slice v.b v.nb v.cb) ∧ w'.cell? ⟨w.heap.size, 3, none⟩ = some (.slice v.r v.nr v.cr) ∧ w'.cell? ⟨w.heap.size, 4, none⟩ = some (.slice v.t v.nt v.ct)) ∧ Below W0.heap.size W0 w') (first | exact hS _ (xB1.drew) | exact hS _ ((xB1.drew).alloc (by simp) _) | exact hS _ (keepb (by assumption) (by assumption))) (first | (go_at_call 37; refine (implTally_no _ v p _ _ _ _ (hr.below (B0.trans ((And.right (by assumption : _ ∧ Below W0.heap.size W0 _)).mono B0.size))) HZ.out HV.out).mono ?_; rintro e w1 ⟨rfl, hb⟩))
  rename_i w9 hSw
  have hb := hSw.2
  clear hSw hS
  go_wp2
  go_ret
  exact ⟨none, 0, rfl, World.ownsRow_nil _ _ _ _, B0.trans (hb.mono B0.size)⟩






theorem take_snoc_int {xs : List Int} {k : Nat} {x : Int} (hk : k < xs.length) (hx : xs.getD k 0 = x) : ints (xs.take k) ++ [.int .i64 x] = ints (xs.take (k + 1)) := by
 rw [take_succ_int xs k hk, hx]; simp [ints]
theorem ofLetters_eq (o : OpD) : ofLettersOf o = ofKind 8 false o - ofKind 9 false o := by
 unfold ofLettersOf ofKind
 by_cases h8 : o.kind = 8
 ·simp [h8]
 ·by_cases h9 : o.kind = 9
  ·simp [h9]
  ·simp [h8, h9]
theorem obK {p : Pg} (kind : Int) (o : OpD) (_ : opValid p o = true) : -9 ≤ ofKind kind false o ∧ ofKind kind false o ≤ 9 := by
 unfold ofKind; split <;> simp
theorem sums_all {p : Pg} {of : OpD → Int} (hv : progValid p = true) (hob : ∀ o, opValid p o = true → -9 ≤ of o ∧ of o ≤ 9) (j : Nat) : -330 ≤ sumsAt of j p.threads ∧ sumsAt of j p.threads ≤ 330 := by
 have h1 := (valid_threads hv).1
 have e := sums_small (j := j) hv (i := p.threads.length - 1) (k := (p.threads.getD (p.threads.length - 1) []).length) (by omega) xL1 hob
 rw [sumsAt_done _ _ _ _ (by omega), show p.threads.length - 1 + 1 = p.threads.length by omega, List.take_length] at e
 exact e
theorem specLettersOf_any (n : Nat) (v : PV) (p : Pg) (w : World) (hn : (lettersOf p).length = n) (hr : RdP w v p) (hz : Small v p) :
  Calls Try.prog 22 #[.agg #[.slice v.s v.ns v.cs, .slice v.g v.ng v.cg, .slice v.b v.nb v.cb, .slice v.r v.nr v.cr, .slice v.t v.nt v.ct]] w fun e w' => ∃ a' c', e = .returned (.slice a' n c') ∧ w'.ownsRow w.heap.size 3 1 (.slice a' n c') n (ints (lettersOf p)) ∧ Below w.heap.size w w' := by
 have hs : v.ns ≤ maxLen ∧ v.ng ≤ maxLen ∧ v.nb ≤ maxLen ∧ v.nr ≤ maxLen := by
  obtain ⟨z1, z2, z3, z4, z5, z6⟩ := hz; unfold maxLen; omega
 have zz : Hid (v.ns ≤ maxLen ∧ v.ng ≤ maxLen ∧ v.nb ≤ maxLen ∧ v.nr ≤ maxLen) := xH1 hs
 have HZ := xH1 hz
 have z5 : v.nt ≤ 1048576 := hz.lt
 have Z6 := xH1 hz.inn
 have ls := xH1 hr.ls
 have lg := xH1 hr.lg
 have lb := xH1 hr.lb
 have lr := xH1 hr.lr
 have lt := xH1 hr.lt
 clear hz
 have B0 : Below w.heap.size w (w.alloc (.cells #[.slice v.s v.ns v.cs, .slice v.g v.ng v.cg, .slice v.b v.nb v.cb, .slice v.r v.nr v.cr, .slice v.t v.nt v.ct] 26)) := xA1
 have k0 : Blk (w.alloc (.cells #[.slice v.s v.ns v.cs, .slice v.g v.ng v.cg, .slice v.b v.nb v.cb, .slice v.r v.nr v.cr, .slice v.t v.nt v.ct] 26)) w.heap.size #[.slice v.s v.ns v.cs, .slice v.g v.ng v.cg, .slice v.b v.nb v.cb, .slice v.r v.nr v.cr, .slice v.t v.nt v.ct] 26 := Blk.new _ _ _
 have q0 : (w.alloc (.cells #[.slice v.s v.ns v.cs, .slice v.g v.ng v.cg, .slice v.b v.nb v.cb, .slice v.r v.nr v.cr, .slice v.t v.nt v.ct] 26)).cell? ⟨w.heap.size, 0, none⟩ = some (.slice v.s v.ns v.cs) := k0.cell 0 rfl
 have q1 : (w.alloc (.cells #[.slice v.s v.ns v.cs, .slice v.g v.ng v.cg, .slice v.b v.nb v.cb, .slice v.r v.nr v.cr, .slice v.t v.nt v.ct] 26)).cell? ⟨w.heap.size, 1, none⟩ = some (.slice v.g v.ng v.cg) := k0.cell 1 rfl
 have q2 : (w.alloc (.cells #[.slice v.s v.ns v.cs, .slice v.g v.ng v.cg, .slice v.b v.nb v.cb, .slice v.r v.nr v.cr, .slice v.t v.nt v.ct] 26)).cell? ⟨w.heap.size, 2, none⟩ = some (.slice v.b v.nb v.cb) := k0.cell 2 rfl
 have q3 : (w.alloc (.cells #[.slice v.s v.ns v.cs, .slice v.g v.ng v.cg, .slice v.b v.nb v.cb, .slice v.r v.nr v.cr, .slice v.t v.nt v.ct] 26)).cell? ⟨w.heap.size, 3, none⟩ = some (.slice v.r v.nr v.cr) := k0.cell 3 rfl
 have q4 : (w.alloc (.cells #[.slice v.s v.ns v.cs, .slice v.g v.ng v.cg, .slice v.b v.nb v.cb, .slice v.r v.nr v.cr, .slice v.t v.nt v.ct] 26)).cell? ⟨w.heap.size, 4, none⟩ = some (.slice v.t v.nt v.ct) := k0.cell 4 rfl
 clear k0
 have hng : v.nr ≤ 1048576 := HZ.out.lr
 rcases Bool.eq_false_or_eq_true (progValid p) with hv | hv
 ·have HB : Hid (lettersOf p = tallyOf (List.replicate p.rooms.length 0) ofLettersOf p.threads) := xH1 (by unfold lettersOf; rw [if_pos hv])
  obtain rfl : n = v.nr := by rw [← hn, HB.out, tallyOf_len, List.length_replicate, hr.lr]
  obtain ⟨L, hL⟩ : ∃ L, L = lettersOf p := ⟨_, rfl⟩
  rw [← hL] at hn ⊢
  have HN := xH1 hn
  have HL := xH1 hL
  have HG : Hid (∀ k, k < v.nr → L.getD k 0 = sumsAt (ofKind 8 false) k p.threads - sumsAt (ofKind 9 false) k p.threads) := xH1 (fun k hk => by rw [hL, HB.out, tallyOf_get _ _ _ _ (by rw [List.length_replicate, hr.lr]; exact hk), sumsAt_congr _ _ ofLetters_eq, sumsAt_sub]; simp [List.getD, hr.lr, hk])
  have HS1 : Hid (∀ k, -330 ≤ sumsAt (ofKind 8 false) k p.threads ∧ sumsAt (ofKind 8 false) k p.threads ≤ 330) := xH1 (sums_all hv (obK 8))
  have HS2 : Hid (∀ k, -330 ≤ sumsAt (ofKind 9 false) k p.threads ∧ sumsAt (ofKind 9 false) k p.threads ≤ 330) := xH1 (sums_all hv (obK 9))
  have HV := xH1 hv
  clear hv hn hL
  go_enter Try.func22, Try.ntmps22
  go_wp2
  obtain ⟨W0, hW0⟩ : ∃ W0 : World, W0 = (w.alloc (.cells #[.slice v.s v.ns v.cs, .slice v.g v.ng v.cg, .slice v.b v.nb v.cb, .slice v.r v.nr v.cr, .slice v.t v.nt v.ct] 26)) := ⟨_, rfl⟩
  have hw0s : W0.heap.size = w.heap.size + 1 := by rw [hW0]; simp
  have HW0 := xH1 hw0s
  clear hw0s
  rw [← hW0] at B0 q0 q1 q2 q3 q4 ⊢
  clear hW0
  have hs0 := B0.size
  go_loopw [3, 4] (fun ov i wr => ∃ (k : Nat) (a' : Option Addr) (c' : Nat), k ≤ v.nr ∧ i = .int .i64 k ∧ ov = .slice a' k c' ∧ wr.ownsRow W0.heap.size 3 1 (.slice a' k c') k (ints (L.take k)) ∧ Below W0.heap.size W0 wr) (fun _ i _ => v.nr - (intOf i).toNat)
  case atStart => exact ⟨0, _, _, by omega, rfl, rfl, by rw [← HW0.out]; simpa [ints] using owns_empty W0 3 1, xA1⟩
  case round =>
   obtain ⟨k, a', c', hk, rfl, rfl, hown, hb0⟩ := hrel
   have c0 := keepc hb0 q0
   have c1 := keepc hb0 q1
   have c2 := keepc hb0 q2
   have c3 := keepc hb0 q3
   have c4 := keepc hb0 q4
   have B1 := B0.trans (hb0.mono B0.size)
   by_cases hlt : k < v.nr
   ·have d0 : decide ((k : Int) < v.nr) = true := decide_eq_true (by omega)
    go_wp2_with fail
    refine (specProgValid_any v p _ (hr.below B1) HZ.out).mono ?_
    rintro e w2 ⟨rfl, hb⟩
    rw [HV.out]
    replace c0 := keepc hb c0
    replace c1 := keepc hb c1
    replace c2 := keepc hb c2
    replace c3 := keepc hb c3
    replace c4 := keepc hb c4
    replace B1 := B1.trans (hb.mono B1.size)
    replace hb0 := hb0.trans (hb.mono hb0.size)
    replace hown := owns_below hown hb
    clear hb
    obtain ⟨x, hx⟩ : ∃ x, x = L.getD k 0 := ⟨_, rfl⟩
    have HX : Hid (ints (L.take k) ++ [.int .i64 x] = ints (L.take (k + 1))) := xH1 (take_snoc_int (by rw [HN.out]; exact hlt) hx.symm)
    rw [HG.out k hlt] at hx
    obtain ⟨y, hy⟩ : ∃ y, y = sumsAt (ofKind 8 false) k p.threads := ⟨_, rfl⟩
    obtain ⟨z, hz'⟩ : ∃ z, z = sumsAt (ofKind 9 false) k p.threads := ⟨_, rfl⟩
    have h1 := HS1.out k
    have h2 := HS2.out k
    rw [← hy] at hx h1
    rw [← hz'] at hx h2
    have HY := xH1 hy
    have HZZ := xH1 hz'
    have hwr : IntKind.i64.wrap (y - z) = y - z := Go.IntWalk.i64_in _ (by omega)
    clear hy hz' h1 h2
    subst hx
    have hS : ∀ w', Below W0.heap.size W0 w' → (w'.cell? ⟨w.heap.size, 0, none⟩ = some (.slice v.s v.ns v.cs) ∧ w'.cell? ⟨w.heap.size, 1, none⟩ = some (.slice v.g v.ng v.cg) ∧ w'.cell? ⟨w.heap.size, 2, none⟩ = some (.slice v.b v.nb v.cb) ∧ w'.cell? ⟨w.heap.size, 3, none⟩ = some (.slice v.r v.nr v.cr) ∧ w'.cell? ⟨w.heap.size, 4, none⟩ = some (.slice v.t v.nt v.ct)) ∧ Below W0.heap.size W0 w' := fun w' hb => ⟨⟨keepc hb q0, keepc hb q1, keepc hb q2, keepc hb q3, keepc hb q4⟩, hb⟩
    have hor := xH1 (fun j hj => (owns_row hown j hj).1)
    replace hown := owns_below hown xB1.drew
    have hb1 : Below W0.heap.size W0 w2.drew := hb0.drew
    go_wp2
    go_region_held3 (fun w' => (w'.cell? ⟨w.heap.size, 0, none⟩ = some (.slice v.s v.ns v.cs) ∧ w'.cell? ⟨w.heap.size, 1, none⟩ = some (.slice v.g v.ng v.cg) ∧ w'.cell? ⟨w.heap.size, 2, none⟩ = some (.slice v.b v.nb v.cb) ∧ w'.cell? ⟨w.heap.size, 3, none⟩ = some (.slice v.r v.nr v.cr) ∧ w'.cell? ⟨w.heap.size, 4, none⟩ = some (.slice v.t v.nt v.ct)) ∧ Below W0.heap.size W0 w') (first | exact hS _ hb1 | exact hS _ (keepb (by assumption) (by assumption)) | exact hS _ (keepa (by assumption) _) | exact hS _ (keept (by assumption) (by assumption) hor.out)) (first | (go_at_call 40; (with_reducible refine (l10Sum_false v p 8 k _ (hr.below (B0.trans ((And.right (by assumption : _ ∧ Below W0.heap.size W0 _)).mono B0.size))) HZ.out HV.out (obK 8)).mono ?_); rintro e w3 ⟨rfl, hb⟩; rw [← HY.out]; replace hown := owns_below hown hb) | (go_at_call 40; (with_reducible refine (l10Sum_false v p 9 k _ (hr.below (B0.trans ((And.right (by assumption : _ ∧ Below W0.heap.size W0 _)).mono B0.size))) HZ.out HV.out (obK 9)).mono ?_); rintro e w3 ⟨rfl, hb⟩; rw [← HZZ.out]; replace hown := owns_below hown hb) | (refine step_append_rd (news := [.int .i64 (y - z)]) (by rfl) _ _ 23 (by rfl) Try.underlying23 info_int rfl (by decide) (by rfl) (hown.alloc _) (by rfl) (by rfl) (Rd.of_blk (Blk.new _ _ _)) (by simp [Value.oneCell']) (by omega) (by decide) (And.right (by assumption : _ ∧ Below W0.heap.size W0 _)).size ?_; intro a1 c1 w5 hown1 hgr1))
    rename_i hSw
    replace hb0 := hSw.2
    clear hSw hS hb1
    go_wp2
    go_roundw
    case rel => exact ⟨k + 1, a1, c1, by omega, by go_num, rfl, by rw [← HX.out]; exact hown1, hb0⟩
    case measure => simp [intOf]; omega
   ·have d0 : decide ((k : Int) < v.nr) = false := decide_eq_false (by omega)
    have hkm : k = v.nr := by omega
    subst hkm
    have HT : Hid (L.take v.nr = L) := xH1 (by rw [← HN.out, List.take_length])
    rw [HT.out] at hown
    go_wp2
    go_ret
    exact ⟨_, _, rfl, owns_mono hown hs0, B1⟩
 ·have HB : Hid (lettersOf p = []) := xH1 (by unfold lettersOf; rw [if_neg (by rw [hv]; simp)])
  rw [HB.out] at hn ⊢
  obtain rfl : n = 0 := hn.symm
  have HV := xH1 hv
  clear hv
  go_enter Try.func22, Try.ntmps22
  go_wp2
  obtain ⟨W0, hW0⟩ : ∃ W0 : World, W0 = (w.alloc (.cells #[.slice v.s v.ns v.cs, .slice v.g v.ng v.cg, .slice v.b v.nb v.cb, .slice v.r v.nr v.cr, .slice v.t v.nt v.ct] 26)) := ⟨_, rfl⟩
  have hw0s : W0.heap.size = w.heap.size + 1 := by rw [hW0]; simp
  have HW0 := xH1 hw0s
  clear hw0s
  rw [← hW0] at B0 q0 q1 q2 q3 q4 ⊢
  clear hW0
  have o0 := owns_mono (owns_empty W0 3 1) B0.size
  rw [HW0.out] at o0
  have b0' : Below W0.heap.size W0 (W0.alloc (.cells #[] 3)) := xA1
  obtain ⟨W1, hW1⟩ : ∃ W1 : World, W1 = W0.alloc (.cells #[] 3) := ⟨_, rfl⟩
  rw [← hW1] at o0 b0' ⊢
  clear hW1
  replace q0 := keepc b0' q0
  replace q1 := keepc b0' q1
  replace q2 := keepc b0' q2
  replace q3 := keepc b0' q3
  replace q4 := keepc b0' q4
  replace B0 := B0.trans (b0'.mono B0.size)
  clear b0'
  go_loopw [3, 4] (fun ov i wr => i = .int .i64 0 ∧ ov = .slice (some ⟨w.heap.size + 1, 0, none⟩) 0 0 ∧ wr = W1) (fun _ i _ => 0)
  case atStart => exact ⟨rfl, rfl, rfl⟩
  case round =>
   obtain ⟨rfl, rfl, rfl⟩ := hrel
   by_cases h0 : 0 < v.nr
   ·have d0 : decide ((0 : Int) < v.nr) = true := decide_eq_true (by omega)
    go_wp2_with fail
    refine (specProgValid_any v p _ (hr.below B0) HZ.out).mono ?_
    rintro e w2 ⟨rfl, hb⟩
    rw [HV.out]
    replace o0 := owns_below o0 hb
    go_wp2
    go_ret
    exact ⟨_, _, rfl, o0, B0.trans (hb.mono B0.size)⟩
   ·have d0 : decide ((0 : Int) < v.nr) = false := decide_eq_false (by omega)
    go_wp2
    go_ret
    exact ⟨_, _, rfl, o0, B0⟩
theorem wkInts_n (a1 a2 : Option Addr) (n c1 c2 : Nat) (xs ys : List Int) (w : World) (hn : n ≤ 1099511627776) (hl : xs.length = n) (hl2 : ys.length = n) (h1 : Rd w a1 (ints xs)) (h2 : Rd w a2 (ints ys)) :
  Calls Try.prog 12 #[.slice a1 n c1, .slice a2 n c2] w fun e w' => e = .returned (.bool (decide (xs = ys))) ∧ ∃ n, w' = w.drewN n := by
 have HL := xH1 hl
 have HL2 := xH1 hl2
 clear hl hl2
 go_enter Try.func12, Try.ntmps12
 go_wp2
 go_loopw [5] (fun i wr => ∃ k : Nat, k ≤ n ∧ i = .int .i64 k ∧ Hid (∀ j, j < k → xs.getD j 0 = ys.getD j 0) ∧ ∃ d, wr = w.drewN d) (fun i _ => n - (intOf i).toNat)
 case atStart => exact ⟨0, by omega, rfl, xH1 (by omega), 0, rfl⟩
 case round =>
  obtain ⟨k, hk, rfl, hall, d, rfl⟩ := hrel
  by_cases hlt : k < n
  ·obtain ⟨b1, o1, rfl, g1'⟩ := h1.int (by have := HL.out; omega)
   obtain ⟨b2, o2, rfl, g2'⟩ := h2.int (by have := HL2.out; omega)
   have g1a := g1' k (by have := HL.out; omega)
   have g2a := g2' k (by have := HL2.out; omega)
   obtain ⟨x, hx⟩ : ∃ x, x = xs.getD k 0 := ⟨_, rfl⟩
   obtain ⟨y, hy⟩ : ∃ y, y = ys.getD k 0 := ⟨_, rfl⟩
   rw [← hx] at g1a
   rw [← hy] at g2a
   have HX := xH1 hx
   have HY := xH1 hy
   clear g1' g2' hx hy
   go_wp2
   go_quiet (fail)
   go_wp2
   ·go_ret
    refine ⟨?_, d + nq, World.drewN_drewN _ _ _⟩
    have hne : (x != y) = true := by assumption
    refine ret_bool (decide_eq_false ?_).symm
    intro e
    rw [HX.out, HY.out, e] at hne
    simp at hne
   ·have hne : (x != y) = false := by assumption
    have he : x = y := by simpa using hne
    refine ⟨⟨k + 1, by omega, by go_num, xH1 ?_, d + nq, rfl⟩, by simp [intOf]; omega⟩
    intro j hj
    by_cases hjk : j = k
    ·rw [hjk, ← HX.out, ← HY.out, he]
    ·exact hall.out j (by omega)
  ·have hkm : k = n := by omega
   subst hkm
   go_wp2
   go_ret
   exact ⟨ret_bool (decide_eq_true (ext_getD_of 0 (by rw [HL.out, HL2.out]) (fun j hj => hall.out j (by rw [HL.out] at hj; exact hj)))).symm, d, rfl⟩
theorem wkInts_no (a1 a2 : Option Addr) (n m c1 c2 : Nat) (w : World) (hnm : n ≠ m) :
  Calls Try.prog 12 #[.slice a1 n c1, .slice a2 m c2] w fun e w' => e = .returned (.bool false) ∧ ∃ n, w' = w.drewN n := by
 have hd : ((n : Int) != (m : Int)) = true := by simp; omega
 clear hnm
 go_enter Try.func12, Try.ntmps12
 go_wp2
 go_ret
 exact ⟨rfl, 0, rfl⟩
theorem wkInts_any (a1 a2 : Option Addr) (n m c1 c2 : Nat) (xs ys : List Int) (w : World) (hn : n ≤ 1099511627776) (hl : xs.length = n) (hl2 : ys.length = m) (h1 : Rd w a1 (ints xs)) (h2 : Rd w a2 (ints ys)) :
  Calls Try.prog 12 #[.slice a1 n c1, .slice a2 m c2] w fun e w' => e = .returned (.bool (decide (xs = ys))) ∧ ∃ n, w' = w.drewN n := by
 by_cases hnm : n = m
 ·subst hnm
  exact wkInts_n a1 a2 n c1 c2 xs ys w hn hl hl2 h1 h2
 ·rw [decide_eq_false (fun e => hnm (by rw [← hl, ← hl2, e]))]
  exact wkInts_no a1 a2 n m c1 c2 w hnm
def sumG (g : OpD → Int) : List OpD → Int
 | [] => 0
 | o :: os => g o + sumG g os
theorem sumG_app (g : OpD → Int) : ∀ a b : List OpD, sumG g (a ++ b) = sumG g a + sumG g b
 | [], b => by simp [sumG]
 | o :: a, b => by simp only [List.cons_append, sumG, sumG_app g a b]; omega
variable {p : Pg} {s : StD}
def doneT (p : Pg) (s : StD) (g : OpD → Int) (t : Nat) : Int := sumG g ((p.threads.getD t []).take (s.places.getD t 0).toNat)
def doneA (p : Pg) (s : StD) (g : OpD → Int) : Nat → Int
 | 0 => 0
 | n + 1 => doneA p s g n + doneT p s g n
def done (p : Pg) (s : StD) (g : OpD → Int) : Int := doneA p s g p.threads.length
theorem done_same {s' : StD} (e : s'.places = s.places) (g : OpD → Int) : done p s' g = done p s g := by
 have h : ∀ n, doneA p s' g n = doneA p s g n := fun n => by
  induction n with
  | zero => rfl
  | succ n ih => unfold doneA; rw [ih]; unfold doneT; rw [e]
 exact h _
theorem doneT_goOn {u : Int} (hu : At p s u) (g : OpD → Int) (t : Nat) : doneT p (goOn p s u) g t = doneT p s g t + if t = u.toNat then g (opAt p s u) else 0 := by
 unfold doneT goOn
 dsimp only
 rw [getD_set]
 have hl : u.toNat < s.places.length := by have := hu.rg; omega
 by_cases e : t = u.toNat
 ·subst e
  rw [if_pos ⟨rfl, hl⟩, if_pos rfl]
  have h0 := hu.ge
  have hk : (s.places.getD u.toNat 0).toNat < (p.threads.getD u.toNat []).length := by have := hu.lt; unfold opsOf at this; omega
  rw [show (s.places.getD u.toNat 0 + 1).toNat = (s.places.getD u.toNat 0).toNat + 1 by omega, ← take_snoc _ noOp hk, sumG_app]
  show _ + (g _ + 0) = _ + g _
  rw [Int.add_zero]
  rfl
 ·rw [if_neg (fun h => e h.1), if_neg e, Int.add_zero]
theorem doneA_goOn {u : Int} (hu : At p s u) (g : OpD → Int) : ∀ n : Nat, doneA p (goOn p s u) g n = doneA p s g n + if u.toNat < n then g (opAt p s u) else 0
 | 0 => by simp [doneA]
 | n + 1 => by
  unfold doneA
  rw [doneA_goOn hu g n, doneT_goOn hu]
  by_cases h1 : u.toNat < n
  ·rw [if_pos h1, if_neg (by omega), if_pos (by omega)]; omega
  ·by_cases h2 : n = u.toNat
   ·rw [if_neg h1, if_pos h2, if_pos (by omega)]; omega
   ·rw [if_neg h1, if_neg h2, if_neg (by omega)]; omega
theorem done_goOn {u : Int} (hu : At p s u) (g : OpD → Int) : done p (goOn p s u) g = done p s g + g (opAt p s u) := by
 unfold done
 rw [doneA_goOn hu, if_pos (by have := hu.rg; omega)]
theorem At.goOn {u z : Int} (hz : At p s z) (hne : z ≠ u) (hu : 0 ≤ u) : At p (goOn p s u) z ∧ opAt p (Go.Proofs.Ytoeockmkhpehbaa.goOn p s u) z = opAt p s z := by
 have hne' : z.toNat ≠ u.toNat := by have := hz.rg; omega
 have e : (Go.Proofs.Ytoeockmkhpehbaa.goOn p s u).places.getD z.toNat 0 = s.places.getD z.toNat 0 := by
  unfold Go.Proofs.Ytoeockmkhpehbaa.goOn
  dsimp only
  rw [getD_set, if_neg (fun h => hne' h.1)]
 refine ⟨⟨?_, by rw [e]; exact hz.ge, by rw [e]; exact hz.lt⟩, by unfold opAt; rw [e]⟩
 have := hz.rg
 unfold Go.Proofs.Ytoeockmkhpehbaa.goOn
 dsimp only
 rw [List.length_set]
 exact this
theorem sumZ_congr {f f' : Int → Int} : ∀ {l : List Int}, (∀ z ∈ l, f z = f' z) → sumZ f l = sumZ f' l
 | [], _ => rfl
 | z :: l, h => by
  unfold sumZ
  rw [h z (by simp), sumZ_congr fun y hy => h y (by simp [hy])]
theorem sumZ_zero {f : Int → Int} {l : List Int} (h : ∀ z ∈ l, f z = 0) : sumZ f l = 0 := by
 rw [sumZ_congr (f' := fun _ => 0) h]
 induction l with
 | nil => rfl
 | cons z l ih => unfold sumZ; rw [ih fun y hy => h y (by simp [hy])]; rfl
theorem done_goAll (g : OpD → Int) : ∀ (l : List Int) (s : StD), l.Nodup → (∀ z ∈ l, At p s z) → done p (goAll p s l) g = done p s g + sumZ (fun z => g (opAt p s z)) l
 | [], s, _, _ => by show done p s g = _; simp [sumZ]
 | u :: l, s, hn, ha => by
  rw [List.nodup_cons] at hn
  have hu := ha u (by simp)
  have hz : ∀ z ∈ l, At p (goOn p s u) z ∧ opAt p (goOn p s u) z = opAt p s z := fun z hz => (ha z (by simp [hz])).goOn (fun e => hn.1 (e ▸ hz)) hu.rg.1
  show done p (goAll p (goOn p s u) l) g = _
  rw [done_goAll g l (goOn p s u) hn.2 fun z h => (hz z h).1, done_goOn hu]
  rw [sumZ_congr (f := fun z => g (opAt p (goOn p s u) z)) (f' := fun z => g (opAt p s z)) fun z h => by rw [(hz z h).2]]
  show _ = _ + (g (opAt p s u) + sumZ _ l)
  omega
theorem Move.sum {l : List Int} {s' : StD} (h : Move p s l s') (g : OpD → Int) : done p s' g = done p s g + sumZ (fun z => g (opAt p s z)) l := by
 rw [done_same h.pl, done_goAll g l s h.nd h.ok]
variable {p : Pg} {s : StD} {t : Int}
def gAt (of : OpD → Int) (i : Nat) (o : OpD) : Int := if o.on = i then of o else 0
theorem gAt_no {of : OpD → Int} {i : Nat} {o : OpD} (h : of o = 0) : gAt of i o = 0 := by unfold gAt; rw [h]; split <;> rfl
theorem gAt_ne {of : OpD → Int} {i : Nat} {o : OpD} (h : o.on ≠ i) : gAt of i o = 0 := if_neg h
theorem sum_ne {of : OpD → Int} {k : Int} {l : List Int} (hM : Mates p s t k l) {i j : Nat} (hi : (opAt p s t).on = i) (hne : i ≠ j) : sumZ (fun z => gAt of j (opAt p s z)) l = 0 := sumZ_zero fun z hz => gAt_ne (by
 rcases hM z hz with rfl | ⟨-, h1⟩
 ·rw [hi]; omega
 ·rw [h1, hi]; omega)
def ChnI (x : ChnD) (d : Int) : Prop := d ≤ x.items.length ∧ (x.closed = false → d = x.items.length)
theorem lawChn (h : Fits p s) (ht : Turn p s t) {j : Nat} (hj : j < s.chans.length) (I : ChnI (s.chans.getD j noChn) (done p s (gAt ofLettersOf j))) :
  ChnI ((stepD p s t).chans.getD j noChn) (done p (stepD p s t) (gAt ofLettersOf j)) := by
 have hg : ∀ i : Nat, (fun z => gChn i (opAt p s z)) = fun z => gAt ofLettersOf i (opAt p s z) := fun i => rfl
 by_cases k8 : (opAt p s t).kind = 8
 ·obtain ⟨i, e, hi, h1 | ⟨y, s1, l, ec, -, -, -, -, hM, hE, hcl, hn, -, -⟩⟩ := view8 h ht k8
  ·rw [h1, done_same (s := s) (s' := faultIt s 3) rfl]; exact I
  ·rw [hE.mv.sum, hE.ch, ec, getD_set]
   by_cases hij : j = i
   ·subst hij
    rw [if_pos ⟨rfl, hj⟩]
    rw [hg] at hn
    exact ⟨by have := I.1; omega, fun hc => by have := I.2 (hcl.symm.trans hc); omega⟩
   ·rw [if_neg (fun h => hij h.1), sum_ne hM e (fun h => hij h.symm), Int.add_zero]; exact I
 by_cases k9 : (opAt p s t).kind = 9
 ·obtain ⟨i, e, hi, y, s1, l, ec, -, -, -, -, hM, hE, hcl, hn, -, -⟩ := view9 h ht k9
  rw [hE.mv.sum, hE.ch, ec, getD_set]
  by_cases hij : j = i
  ·subst hij
   rw [if_pos ⟨rfl, hj⟩]
   rw [hg] at hn
   rcases hn with hn | ⟨hc1, hn, hn2⟩
   ·exact ⟨by have := I.1; omega, fun hc => by have := I.2 (hcl.symm.trans hc); omega⟩
   ·exact ⟨by have := I.1; omega, fun hc => by rw [hc1] at hc; cases hc⟩
  ·rw [if_neg (fun h => hij h.1), sum_ne hM e (fun h => hij h.symm), Int.add_zero]; exact I
 by_cases k10 : (opAt p s t).kind = 10
 ·obtain ⟨i, e, hi, h1 | ⟨y, l, hM, hE, hcl, hit, hn, -⟩⟩ := view10 h ht k10
  ·rw [h1, done_same (s := s) (s' := faultIt s 4) rfl]; exact I
  ·rw [hE.mv.sum, hE.ch]
   show ChnI ((s.chans.set i y).getD j noChn) _
   rw [getD_set]
   by_cases hij : j = i
   ·subst hij
    rw [if_pos ⟨rfl, hj⟩]
    rw [hg] at hn
    exact ⟨by have := I.1; rw [hit]; omega, fun hc => by rw [hcl] at hc; cases hc⟩
   ·rw [if_neg (fun h => hij h.1), sum_ne hM e (fun h => hij h.symm), Int.add_zero]; exact I
 have hk := op_kind (h.opv ht)
 obtain ⟨s1, l, m, hE, hM, -, -, -, -, hc, -, -, -, -, -, -, h89⟩ := view_all h ht
 rw [hE.mv.sum, hE.ch, hc (by omega), sumZ_zero (f := fun z => gAt ofLettersOf j (opAt p s z)), Int.add_zero]
 ·exact I
 intro z hz
 refine gAt_no ?_
 unfold ofLettersOf
 rcases hM z hz with rfl | ⟨h1, -⟩
 ·rw [if_neg k8, if_neg k9]
 ·rw [if_neg (fun h2 => by have := h89 (.inl (h1.symm.trans h2)); omega), if_neg (fun h2 => by have := h89 (.inr (h1.symm.trans h2)); omega)]
def Over (s : StD) : Prop := s.fault = 0 ∧ ∀ t, t < s.status.length → s.status.getD t 0 = 3
theorem over_done (h : Fits p s) (ho : Over s) (of : OpD → Int) (i : Nat) : done p s (gAt of i) = sumsAt of i p.threads := by
 have h1 : ∀ l : List OpD, sumG (gAt of i) l = sumAt of i l := fun l => by
  induction l with
  | nil => rfl
  | cons o l ih => unfold sumG sumAt; rw [ih]; rfl
 have h2 : ∀ t, t < p.threads.length → doneT p s (gAt of i) t = sumAt of i (p.threads.getD t []) := fun t ht => by
  unfold doneT
  have hth := h.th t ht
  have h3 := ho.2 t (by rw [h.nst]; exact ht)
  unfold thOk at hth
  rw [nat_toNat, opsOf_nat, h3] at hth
  have h4 : s.places.getD t 0 = (p.threads.getD t []).length := by
   rcases hth.2.2 with h5 | ⟨-, h5 | h5 | h5⟩
   ·exact h5.1
   ·exact absurd h5.1 (by decide)
   ·exact absurd h5.1 (by decide)
   ·exact absurd h5.1 (by decide)
  rw [h4, nat_toNat, List.take_length, h1]
 have h3 : ∀ n, n ≤ p.threads.length → doneA p s (gAt of i) n = sumsAt of i (p.threads.take n) := fun n => by
  induction n with
  | zero => intro _; rfl
  | succ n ih =>
   intro hn
   unfold doneA
   rw [ih (by omega), h2 n (by omega), sumsAt_take of i p.threads n (by omega)]
 have := h3 p.threads.length xL1
 rw [List.take_length] at this
 exact this
theorem done_start (g : OpD → Int) : done p (startOf p) g = 0 := by
 have h1 : ∀ t, doneT p (startOf p) g t = 0 := fun t => by
  unfold doneT
  have : (startOf p).places.getD t 0 = 0 := by
   show (p.threads.map fun _ => (0 : Int)).getD t 0 = 0
   rw [List.getD_eq_getElem?_getD, List.getElem?_map]
   cases p.threads[t]? <;> rfl
  rw [this]
  rfl
 have h2 : ∀ n, doneA p (startOf p) g n = 0 := fun n => by
  induction n with
  | zero => rfl
  | succ n ih => unfold doneA; rw [ih, h1]; rfl
 exact h2 _
def firstGt (x : Int) : List Int → Option Int
 | [] => none
 | t :: l => if x < t then some t else firstGt x l
def nextT (l tr : List Int) : Int := if tr.length = 0 then l.getD 0 0 else (firstGt (tr.getD (tr.length - 1) 0) l).getD (l.getD 0 0)
def chTurns (s : StD) (tr : List Int) : Option Int := if (readyOf s).length = 0 ∨ 100 ≤ tr.length then none else some (nextT (readyOf s) tr)
theorem firstGt_mem {x : Int} : ∀ {l : List Int} {t : Int}, firstGt x l = some t → t ∈ l
 | [], _, h => by cases h
 | y :: l, t, h => by
  unfold firstGt at h
  split at h
  ·obtain rfl := Option.some.inj h; simp
  ·exact List.mem_cons_of_mem _ (firstGt_mem h)
theorem firstGt_no {x : Int} : ∀ {l : List Int}, (∀ j, j < l.length → l.getD j 0 ≤ x) → firstGt x l = none
 | [], _ => rfl
 | y :: l, h => by
  have h0 : y ≤ x := h 0 (by simp)
  unfold firstGt
  rw [if_neg (by omega)]
  exact firstGt_no fun j hj => h (j + 1) (by simpa using hj)
theorem firstGt_at {x : Int} : ∀ {l : List Int} {k : Nat}, k < l.length → x < l.getD k 0 → (∀ j, j < k → l.getD j 0 ≤ x) → firstGt x l = some (l.getD k 0)
 | [], _, h, _, _ => by cases h
 | y :: l, 0, _, h, _ => by unfold firstGt; exact if_pos h
 | y :: l, k + 1, hk, h, hall => by
  have h0 : y ≤ x := hall 0 (by omega)
  unfold firstGt
  rw [if_neg (by omega)]
  exact firstGt_at (by simpa using hk) h fun j hj => hall (j + 1) (by omega)
theorem chTurns_mem : ∀ s tr t, chTurns s tr = some t → t ∈ readyOf s := fun s tr t h => by
 unfold chTurns at h
 split at h
 ·cases h
 ·next hn =>
  obtain rfl := Option.some.inj h
  have h0 := head_mem (l := readyOf s) fun e => hn (.inl e)
  unfold nextT
  split
  ·exact h0
  ·cases e : firstGt (tr.getD (tr.length - 1) 0) (readyOf s) with
   | none => exact h0
   | some t => exact firstGt_mem e
theorem chTurns_100 : ∀ s tr, 100 ≤ tr.length → chTurns s tr = none := fun _ _ h => if_pos (.inr h)
theorem implGt_any (x y : Int) (B : Nat) (w : World) (hc : w.cell? ⟨B, 0, none⟩ = some (.int .i64 y)) :
  Calls Try.prog 46 (#[.int .i64 x] ++ #[.pointer (some ⟨B, 0, none⟩)]) w fun e w' => e = .returned (.bool (decide (y < x))) ∧ w' = w := by
 show Calls Try.prog 46 #[.int .i64 x, .pointer (some ⟨B, 0, none⟩)] w _
 go_enter Try.func46, Try.ntmps46
 go_wp2
 go_ret
 exact ⟨rfl, rfl⟩
theorem implIdxGt_any (a : Option Addr) (n c : Nat) (l : List Int) (y : Int) (B : Nat) (w : World) (hl : l.length = n) (hn : n ≤ 8) (hr : Rd w a (ints l)) (hc : w.cell? ⟨B, 0, none⟩ = some (.int .i64 y)) :
  Calls Try.prog 45 #[.slice a n c, .func (.func 46) #[] #[.pointer (some ⟨B, 0, none⟩)]] w fun e w' => w' = w ∧ ((e = .returned (.int .i64 (-1)) ∧ ∀ j, j < n → l.getD j 0 ≤ y) ∨ ∃ k : Nat, e = .returned (.int .i64 k) ∧ k < n ∧ y < l.getD k 0 ∧ ∀ j, j < k → l.getD j 0 ≤ y) := by
 have HL := xH1 hl
 have HC := xH1 hc
 clear hl hc
 go_enter Try.func45, Try.ntmps45
 go_wp2
 go_loopw [8] (fun i wr => ∃ k : Nat, k ≤ n ∧ i = .int .i64 k ∧ Hid (∀ j, j < k → l.getD j 0 ≤ y) ∧ wr = w) (fun i _ => n - (intOf i).toNat)
 case atStart => exact ⟨0, by omega, rfl, xH1 (by omega), rfl⟩
 case round =>
  obtain ⟨k, hk, rfl, hall, rfl⟩ := hrel
  by_cases hlt : k < n
  ·obtain ⟨b, o, rfl, hcc⟩ := hr.int (by have := HL.out; omega)
   have g := hcc k (by have := HL.out; omega)
   obtain ⟨x, hx⟩ : ∃ x, x = l.getD k 0 := ⟨_, rfl⟩
   rw [← hx] at g
   have HX := xH1 hx
   clear hcc hx
   go_wp2_with fail
   refine (implGt_any x y B _ HC.out).mono ?_
   rintro e wz ⟨rfl, hw⟩
   obtain rfl := hw
   by_cases e : y < x
   ·rw [decide_eq_true e]
    have HE := xH1 e
    clear e
    go_wp2
    go_ret
    exact ⟨rfl, .inr ⟨k, rfl, hlt, by rw [← HX.out]; exact HE.out, hall.out⟩⟩
   ·rw [decide_eq_false e]
    have HE := xH1 e
    clear e
    go_wp2
    go_roundw
    case rel => exact ⟨k + 1, by omega, by go_num, xH1 (fun j hj => by
      rcases Nat.lt_or_ge j k with h | h
      ·exact hall.out j h
      ·have : j = k := by omega
       subst this
       rw [← HX.out]; have := HE.out; omega), trivial⟩
    case measure => simp [intOf]; omega
  ·have hkm : k = n := by omega
   subst hkm
   go_wp2
   go_ret
   exact ⟨rfl, .inl ⟨rfl, hall.out⟩⟩
theorem runturns_chooses (w : World) (p : Pg) : Chooses w 44 #[] p chTurns := by
 intro v L s a b n c m d tr W hb hs hr hl h100 hrd hm hm8 hrl
 show Calls Try.prog 44 #[.agg #[.slice v.pl.a v.pl.n v.pl.c, .slice v.st.a v.st.n v.st.c, .slice v.se.a v.se.n v.se.c, .slice v.on.a v.on.n v.on.c, .slice v.gr.a v.gr.n v.gr.c, .slice v.ba.a v.ba.n v.ba.c, .slice v.ch.a v.ch.n v.ch.c, .slice v.sa.a v.sa.n v.sa.c, .int .i64 v.fl, .slice a n c], .slice b m d] W _
 obtain ⟨l, el⟩ : ∃ l, l = readyOf s := ⟨_, rfl⟩
 unfold chTurns
 rw [← el] at hm hrl ⊢
 have HL := xH1 hl
 have HM := xH1 hm
 have HRD := xH1 hrd
 have HRL := xH1 hrl
 clear hb hs hr hl hrd hm hrl el
 have F := (Fr.start W).alloc (rC v a n c) 39
 have cr := F.c10 0 rfl
 have HB := xH1 F.bel
 go_enter Try.func44, Try.ntmps44
 by_cases h0 : m = 0
 ·subst h0
  rw [if_pos (.inl HM.out)]
  clear F
  go_wp2
  exact bodyPost_ret (v := .tuple #[.int .i64 0, .bool false]) (by simp [results, Try.results44, go_sem]) rfl ⟨rfl, HB.out⟩
 by_cases h1 : n = 100
 ·subst h1
  rw [if_pos (.inr (by rw [HL.out]; omega))]
  clear F
  go_wp2
  exact bodyPost_ret (v := .tuple #[.int .i64 0, .bool false]) (by simp [results, Try.results44, go_sem]) rfl ⟨rfl, HB.out⟩
 rw [if_neg (by have := HM.out; have := HL.out; omega)]
 have t1 : ((m : Int) == 0) = false := by simpa using h0
 have t2 : ((n : Int) == 100) = false := by simp; omega
 unfold nextT
 by_cases h2 : n = 0
 ·subst h2
  rw [if_pos HL.out]
  obtain ⟨b1, o1, rfl, g'⟩ := (HRL.out.below HB.out).int (by have := HM.out; omega)
  have g : World.cell? _ ⟨b1, o1, none⟩ = some (.int .i64 (l.getD 0 0)) := g' 0 (by have := HM.out; omega)
  clear F g'
  have m0 : ((0 : Int) < (m : Int)) := by omega
  go_wp2
  exact bodyPost_ret (v := .tuple #[.int .i64 (l.getD 0 0), .bool true]) (by simp [results, Try.results44, go_sem]) rfl ⟨rfl, HB.out⟩
 rw [if_neg (by have := HL.out; omega)]
 obtain ⟨b1, o1, rfl, g'⟩ := (HRD.out.below HB.out).int (by have := HL.out; omega)
 have g := g' (tr.length - 1) (by have := HL.out; omega)
 rw [HL.out] at g ⊢
 obtain ⟨y, hy⟩ : ∃ y, y = tr.getD (n - 1) 0 := ⟨_, rfl⟩
 rw [← hy] at g ⊢
 obtain ⟨n', rfl⟩ : ∃ n', n = n' + 1 := ⟨n - 1, by omega⟩
 rw [show n' + 1 - 1 = n' from rfl] at g
 have F2 := F.alloc #[.int .i64 y] 3
 simp only [World.size_alloc] at F2
 have HB2 := xH1 F2.bel
 have HC2 := xH1 (F2.c1 0 rfl).1
 rw [show ((n' + 1 : Nat) : Int) = (n' : Int) + 1 by simp] at t2
 clear F g' hy F2
 go_wp2_with fail
 refine (implIdxGt_any b m d l y _ _ HM.out hm8 (HRL.out.below HB2.out) HC2.out).mono ?_
 rintro e wz ⟨hw, h⟩
 obtain rfl := hw
 obtain ⟨b2, o2, rfl, g2⟩ := (HRL.out.below HB2.out).int (by have := HM.out; omega)
 rcases h with ⟨rfl, hall⟩ | ⟨k, rfl, hk, hgt, hall⟩
 ·have g3 : World.cell? _ ⟨b2, o2, none⟩ = some (.int .i64 (l.getD 0 0)) := g2 0 (by have := HM.out; omega)
  have HFG := xH1 (firstGt_no (x := y) fun j hj => hall j (by have := HM.out; omega))
  have m0 : ((0 : Int) < (m : Int)) := by omega
  clear hall g2
  go_wp2
  exact bodyPost_ret (v := .tuple #[.int .i64 (l.getD 0 0), .bool true]) (by simp [results, Try.results44, go_sem]) rfl ⟨by rw [HFG.out]; rfl, HB2.out⟩
 ·have g3 := g2 k (by have := HM.out; omega)
  have HFG := xH1 (firstGt_at (x := y) (by have := HM.out; omega) hgt hall)
  clear hall g2 hgt
  go_wp2
  exact bodyPost_ret (v := .tuple #[.int .i64 (l.getD k 0), .bool true]) (by simp [results, Try.results44, go_sem]) rfl ⟨by rw [HFG.out]; rfl, HB2.out⟩
theorem implRunTurns_ok (u : PV) (p : Pg) (w : World) (hp : RdP w u p) (hv : progValid p = true) :
  Calls Try.prog 15 #[.agg #[.slice u.s u.ns u.cs, .slice u.g u.ng u.cg, .slice u.b u.nb u.cb, .slice u.r u.nr u.cr, .slice u.t u.nt u.ct]] w fun e w' => Below w.heap.size w w' ∧ ∃ (s : StD) (tr : List Int) (v : StV) (L : StL) (a : Option Addr) (c : Nat), walkD p chTurns 101 (startOf p) [] = some (s, tr) ∧ e = .returned (.tuple #[.agg #[.slice v.pl.a v.pl.n v.pl.c, .slice v.st.a v.st.n v.st.c, .slice v.se.a v.se.n v.se.c, .slice v.on.a v.on.n v.on.c, .slice v.gr.a v.gr.n v.gr.c, .slice v.ba.a v.ba.n v.ba.c, .slice v.ch.a v.ch.n v.ch.c, .slice v.sa.a v.sa.n v.sa.c, .int .i64 v.fl, .slice a tr.length c], .bool true]) ∧ RunO w.heap.size w' v L a c s tr ∧ Run p s := by
 have HP := xH1 hp
 have HV := xH1 hv
 clear hp hv
 have F := ((Fr.start w).alloc (pvC u) 26).alloc z10 39
 simp only [World.size_alloc] at F
 have cp := F.c5 1 rfl
 go_enter Try.func15, Try.ntmps15
 go_wp2_with fail
 refine (implWalk_ok u p _ 44 #[] chTurns (HP.out.below F.bel) HV.out (fun _ _ => rfl) (runturns_chooses _ p) chTurns_100).mono ?_
 rintro e w1 ⟨hb, ⟨hn, -⟩ | ⟨s, tr, v, L, a, c, hwk, rfl, ho, hr⟩⟩
 ·obtain ⟨r, hr⟩ := walkD_some (p := p) chTurns_mem chTurns_100 101 (startOf p) [] rfl (by simp)
  rw [hn] at hr
  cases hr
 have HWK := xH1 hwk
 have HR := xH1 hr
 have HN := xH1 (NewB.lower ho.nw F.bel.size)
 have G := Sf.gainR F hb ho.tr ho.st ho.nw
 clear hb hwk ho hr F cp
 have cz := G.fr.c10 1 rfl
 have G2 := G.set10 1 rfl (.slice v.pl.a v.pl.n v.pl.c) (.slice v.st.a v.st.n v.st.c) (.slice v.se.a v.se.n v.se.c) (.slice v.on.a v.on.n v.on.c) (.slice v.gr.a v.gr.n v.gr.c) (.slice v.ba.a v.ba.n v.ba.c) (.slice v.ch.a v.ch.n v.ch.c) (.slice v.sa.a v.sa.n v.sa.c) (.int .i64 v.fl) (.slice a tr.length c)
 go_wp2
 exact bodyPost_ret (v := .tuple #[.agg #[.slice v.pl.a v.pl.n v.pl.c, .slice v.st.a v.st.n v.st.c, .slice v.se.a v.se.n v.se.c, .slice v.on.a v.on.n v.on.c, .slice v.gr.a v.gr.n v.gr.c, .slice v.ba.a v.ba.n v.ba.c, .slice v.ch.a v.ch.n v.ch.c, .slice v.sa.a v.sa.n v.sa.c, .int .i64 v.fl, .slice a tr.length c], .bool true]) (by simp [results, Try.results15, go_sem, G2.fr.c10 1 rfl]) rfl ⟨G2.bel, s, tr, v, L, a, c, HWK.out, rfl, ⟨G2.st.sub fun q hq => xQ1 (.inl hq), HN.out, G2.fr.own 0 rfl⟩, HR.out⟩
def overB (s : StD) : Bool := decide (s.fault = 0) && s.status.all (fun x => decide (x = 3))
theorem overB_over {s : StD} (h : overB s = true) : Over s := by
 unfold overB at h
 obtain ⟨h1, h2⟩ := Bool.and_eq_true_iff.1 h
 refine ⟨by simpa using h1, fun t ht => ?_⟩
 have := List.all_eq_true.1 h2 (s.status.getD t 0) (by
  rw [List.getD_eq_getElem?_getD, List.getElem?_eq_getElem ht]
  exact List.getElem_mem ht)
 simpa using this
theorem implNot3_any (x : Int) (w : World) :
  Calls Try.prog 82 #[.int .i64 x] w fun e w' => e = .returned (.bool (x != 3)) ∧ w' = w := by
 go_enter Try.func82, Try.ntmps82
 go_wp2
 go_ret
 exact ⟨rfl, rfl⟩
theorem implIdx3_any (a : Option Addr) (n c : Nat) (l : List Int) (w : World) (hl : l.length = n) (hn : n ≤ 8) (hr : Rd w a (ints l)) :
  Calls Try.prog 45 #[.slice a n c, .func (.func 82) #[] #[]] w fun e w' => w' = w ∧ ((e = .returned (.int .i64 (-1)) ∧ ∀ j, j < n → l.getD j 0 = 3) ∨ ∃ k : Nat, e = .returned (.int .i64 k) ∧ k < n ∧ l.getD k 0 ≠ 3) := by
 have HL := xH1 hl
 clear hl
 go_enter Try.func45, Try.ntmps45
 go_wp2
 go_loopw [8] (fun i wr => ∃ k : Nat, k ≤ n ∧ i = .int .i64 k ∧ Hid (∀ j, j < k → l.getD j 0 = 3) ∧ wr = w) (fun i _ => n - (intOf i).toNat)
 case atStart => exact ⟨0, by omega, rfl, xH1 (by omega), rfl⟩
 case round =>
  obtain ⟨k, hk, rfl, hall, rfl⟩ := hrel
  by_cases hlt : k < n
  ·obtain ⟨b, o, rfl, hcc⟩ := hr.int (by have := HL.out; omega)
   have g := hcc k (by have := HL.out; omega)
   obtain ⟨x, hx⟩ : ∃ x, x = l.getD k 0 := ⟨_, rfl⟩
   rw [← hx] at g
   have HX := xH1 hx
   clear hcc hx
   go_wp2_with fail
   refine (implNot3_any x _).mono ?_
   rintro e wz ⟨rfl, hw⟩
   obtain rfl := hw
   by_cases e : x = 3
   ·have t1 : (x != 3) = false := by simpa using e
    rw [t1]
    have HE := xH1 e
    clear e t1
    go_wp2
    go_roundw
    case rel => exact ⟨k + 1, by omega, by go_num, xH1 (fun j hj => by
      rcases Nat.lt_or_ge j k with h | h
      ·exact hall.out j h
      ·have : j = k := by omega
       subst this
       rw [← HX.out]; exact HE.out), trivial⟩
    case measure => simp [intOf]; omega
   ·have t1 : (x != 3) = true := by simpa using e
    rw [t1]
    have HE := xH1 e
    clear e t1
    go_wp2
    go_ret
    exact ⟨rfl, .inr ⟨k, rfl, hlt, by rw [← HX.out]; exact HE.out⟩⟩
  ·have hkm : k = n := by omega
   subst hkm
   go_wp2
   go_ret
   exact ⟨rfl, .inl ⟨rfl, hall.out⟩⟩
theorem implHas3_any (a : Option Addr) (n c : Nat) (l : List Int) (w : World) (hl : l.length = n) (hn : n ≤ 8) (hr : Rd w a (ints l)) :
  Calls Try.prog 63 #[.slice a n c, .func (.func 82) #[] #[]] w fun e w' => w' = w ∧ e = .returned (.bool (!l.all (fun x => decide (x = 3)))) := by
 have HL := xH1 hl
 clear hl
 go_enter Try.func63, Try.ntmps63
 go_wp2_with fail
 refine (implIdx3_any a n c l w HL.out hn hr).mono ?_
 rintro e wz ⟨hw, h⟩
 obtain rfl := hw
 rcases h with ⟨rfl, hall⟩ | ⟨k, rfl, hk, hne⟩
 ·have t1 : l.all (fun x => decide (x = 3)) = true := by
   rw [List.all_eq_true]
   intro x hx
   obtain ⟨j, hj, rfl⟩ := List.mem_iff_getElem.1 hx
   have := hall j (by have := HL.out; omega)
   rw [List.getD_eq_getElem?_getD, List.getElem?_eq_getElem hj] at this
   simpa using this
  have T1 := xH1 t1
  clear t1 hall
  go_wp2
  go_ret
  exact ⟨rfl, by rw [T1.out]; rfl⟩
 ·have t1 : l.all (fun x => decide (x = 3)) = false := by
   rw [List.all_eq_false]
   have hj : k < l.length := by have := HL.out; omega
   rw [List.getD_eq_getElem?_getD, List.getElem?_eq_getElem hj] at hne
   exact ⟨_, List.getElem_mem hj, by simpa using hne⟩
  have T1 := xH1 t1
  have k0 : (0 : Int) ≤ (k : Int) := by omega
  clear t1 hne
  go_wp2
  go_ret
  exact ⟨rfl, by rw [T1.out]; rfl⟩
theorem implAllDone_ok (v : StV) (L : StL) (s : StD) (w : World) (hr : StR w v L s) (hn : s.status.length ≤ 8) :
  Calls Try.prog 48 #[.agg #[.slice v.pl.a v.pl.n v.pl.c, .slice v.st.a v.st.n v.st.c, .slice v.se.a v.se.n v.se.c, .slice v.on.a v.on.n v.on.c, .slice v.gr.a v.gr.n v.gr.c, .slice v.ba.a v.ba.n v.ba.c, .slice v.ch.a v.ch.n v.ch.c, .slice v.sa.a v.sa.n v.sa.c, .int .i64 v.fl]] w fun e w' => e = .returned (.bool (s.status.all (fun x => decide (x = 3)))) ∧ Below w.heap.size w w' := by
 have HS := xH1 hr
 clear hr
 have F := (Fr.start w).alloc (svC v) 37
 have cs := F.c9 0 rfl
 have HB := xH1 F.bel
 go_enter Try.func48, Try.ntmps48
 go_wp2_with fail
 refine (implHas3_any v.st.a v.st.n v.st.c s.status _ HS.out.st.len.symm (by rw [HS.out.st.len]; exact hn) (HS.out.st.rd.below HB.out)).mono ?_
 rintro e wz ⟨hw, rfl⟩
 obtain rfl := hw
 clear F cs
 go_wp2
 go_ret
 exact ⟨by simp, HB.out⟩
theorem implIsOver_ok (u : PV) (p : Pg) (v : StV) (L : StL) (s : StD) (w : World) (hp : RdP w u p) (hr : StR w v L s) (hf : Fits p s) :
  Calls Try.prog 16 #[.agg #[.slice u.s u.ns u.cs, .slice u.g u.ng u.cg, .slice u.b u.nb u.cb, .slice u.r u.nr u.cr, .slice u.t u.nt u.ct], .agg #[.slice v.pl.a v.pl.n v.pl.c, .slice v.st.a v.st.n v.st.c, .slice v.se.a v.se.n v.se.c, .slice v.on.a v.on.n v.on.c, .slice v.gr.a v.gr.n v.gr.c, .slice v.ba.a v.ba.n v.ba.c, .slice v.ch.a v.ch.n v.ch.c, .slice v.sa.a v.sa.n v.sa.c, .int .i64 v.fl]] w fun e w' => e = .returned (.bool (overB s)) ∧ Below w.heap.size w w' := by
 have HS := xH1 hr
 have HP := xH1 hp
 have HF := xH1 hf
 have N8 : Hid (s.status.length ≤ 8) := xH1 (by have h1 := hf.nst; have h2 := (valid_small hf.prog).2.2.2.2.1; omega)
 have HFL : Hid (v.fl = s.fault) := xH1 hr.fl
 clear hr hp hf
 have F := ((Fr.start w).alloc (pvC u) 26).alloc (svC v) 37
 simp only [World.size_alloc] at F
 have cs := F.c9 0 rfl
 have cp := F.c5 1 rfl
 go_enter Try.func16, Try.ntmps16
 go_wp2_with fail
 refine (implStateFits_ok u p v L s _ (HP.out.below F.bel) (HS.out.below F.bel) HF.out).mono ?_
 rintro e w1 ⟨rfl, hb⟩
 replace F := F.call hb
 replace cs := F.c9 0 rfl
 replace cp := F.c5 1 rfl
 clear hb
 by_cases h0 : v.fl = 0
 ·have t1 : ((v.fl : Int) == 0) = true := by simpa using h0
  have H0 := xH1 h0
  clear h0
  go_wp2_with fail
  refine (implAllDone_ok v L s _ (HS.out.below F.bel) N8.out).mono ?_
  rintro e w2 ⟨rfl, hb⟩
  have HB := xH1 (F.call hb).bel
  clear F hb cs cp
  go_wp2
  go_ret
  exact ⟨by unfold overB; rw [← HFL.out, H0.out]; simp, HB.out⟩
 ·have t1 : ((v.fl : Int) == 0) = false := by simpa using h0
  have H0 := xH1 h0
  have HB := xH1 F.bel
  clear h0 F
  go_wp2
  go_ret
  exact ⟨by unfold overB; rw [← HFL.out, decide_eq_false H0.out]; rfl, HB.out⟩
variable {p : Pg} {s : StD} {t : Int} {ch : StD → List Int → Option Int} {tr : List Int}
theorem run_end (hv : progValid p = true) (hw : walkD p ch 101 (startOf p) [] = some (s, tr)) : Run p s :=
 (walkD_inv (I := fun _ => True) (fun _ _ _ _ _ => trivial) 101 (startOf p) [] (s, tr) (Run.start hv) trivial hw).1
theorem tally_at {start : List Int} {of : OpD → Int} {j : Nat} (hj : j < start.length) : (tallyOf start of p.threads).getD j 0 = start.getD j 0 + sumsAt of j p.threads := tallyOf_get _ _ _ _ hj
theorem zeros_at (n j : Nat) : (List.replicate n (0 : Int)).getD j 0 = 0 := by
 simp only [List.getD, List.getElem?_replicate]
 split <;> rfl
theorem run_letters (hv : progValid p = true) (hw : walkD p ch 101 (startOf p) [] = some (s, tr)) (ho : Over s) {j : Nat} (hj : j < p.rooms.length) : ChnI (s.chans.getD j noChn) (sumsAt ofLettersOf j p.threads) := by
 have hr := run_end hv hw
 have I := run_inv (I := fun s => ∀ j, j < p.rooms.length → ChnI (s.chans.getD j noChn) (done p s (gAt ofLettersOf j))) hv hw (fun j hj => by
  rw [done_start]
  show ChnI ((p.rooms.map fun n => (⟨n, [], [], [], false⟩ : ChnD)).getD j noChn) 0
  rw [map_get _ _ 0 _ hj]
  exact ⟨Int.le_refl _, fun _ => rfl⟩) (fun s t hr ht I j hj => lawChn hr.fits ht (by rw [hr.fits.nch]; exact hj) (I j hj)) j hj
 rw [over_done hr.fits ho] at I
 exact I
end Go.Proofs.Ytoeockmkhpehbaa
