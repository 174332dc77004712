/- Part of a proof: BaseB Count RunLaws IRun IOver RunEnds Draw10 BalSpec BalImpl. -/
import Derived.Lib.QuietBelow
import Derived.BigQuiet
import Derived.IntWalk
import Derived.StillTailTactics
import Derived.Deep.Cut
import Derived.Deep.RegionHeld3
import Derived.Deep.AppendLies
import Derived.Test.YtoeockmkhpehbaaQPRun
import Derived.Shelf.Abstract
set_option maxRecDepth 100000
set_option maxHeartbeats 16000000
namespace Go.Proofs.Ytoeockmkhpehbaa
open Go.RowKit


end Go.Proofs.Ytoeockmkhpehbaa
namespace Go.Proofs.Ytoeockmkhpehbaa
open Go.RowKit Go.Sort

end Go.Proofs.Ytoeockmkhpehbaa
namespace Go.Proofs.Ytoeockmkhpehbaa
open Go.RowKit

end Go.Proofs.Ytoeockmkhpehbaa
namespace Go.Proofs.Ytoeockmkhpehbaa
open Go.RowKit Go.Sort

end Go.Proofs.Ytoeockmkhpehbaa
namespace Go.Proofs.Ytoeockmkhpehbaa
open Go.RowKit

def onlyOp (o : OpD) : Bool := decide (o.kind = 1) || decide (o.kind = 2) || decide (o.kind = 3)
def all2 (p : Pg) (q : OpD → Bool) : Bool := p.threads.all (fun t => t.all q)
def onlySems (p : Pg) : Bool := progValid p && all2 p onlyOp
theorem all2_bad {p : Pg} {q : OpD → Bool} {i k : Nat} (hi : i < p.threads.length) (hk : k < (p.threads.getD i []).length) (h : q ((p.threads.getD i []).getD k noOp) = false) : all2 p q = false := by
 unfold all2
 rw [List.all_eq_false]
 have e : p.threads.getD i [] = p.threads[i] := by simp [List.getD, hi]
 rw [e] at hk h
 have e2 : (p.threads[i]).getD k noOp = (p.threads[i])[k] := by simp [List.getD, hk]
 rw [e2] at h
 have : (p.threads[i]).all q = false := by rw [List.all_eq_false]; exact ⟨_, List.getElem_mem hk, by rw [h]; simp⟩
 exact ⟨p.threads[i], List.getElem_mem hi, by rw [this]; simp⟩
theorem all2_good {p : Pg} {q : OpD → Bool} (h : ∀ i, i < p.threads.length → ∀ k, k < (p.threads.getD i []).length → q ((p.threads.getD i []).getD k noOp) = true) : all2 p q = true := by
 unfold all2
 rw [List.all_eq_true]
 intro t ht
 obtain ⟨i, hi, rfl⟩ := List.getElem_of_mem ht
 have e : p.threads.getD i [] = p.threads[i] := by simp [List.getD, hi]
 have := h i hi
 rw [e] at this
 rw [List.all_eq_true]
 intro o ho
 obtain ⟨k, hk, rfl⟩ := List.getElem_of_mem ho
 have e2 : (p.threads[i]).getD k noOp = (p.threads[i])[k] := by simp [List.getD, hk]
 rw [← e2]; exact this k hk
theorem implOnlySems_any (v : PV) (p : Pg) (w : World) (hr : RdP w v p) (hz : Small v p) :
  Calls Try.prog 24 #[.agg #[.slice v.s v.ns v.cs, .slice v.g v.ng v.cg, .slice v.b v.nb v.cb, .slice v.r v.nr v.cr, .slice v.t v.nt v.ct]] w fun e w' => e = .returned (.bool (onlySems p)) ∧ Below w.heap.size w w' := by
 have hs : v.ns ≤ maxLen ∧ v.ng ≤ maxLen ∧ v.nb ≤ maxLen ∧ v.nr ≤ maxLen := by
  obtain ⟨z1, z2, z3, z4, z5, z6⟩ := hz; unfold maxLen; omega
 have zz : Hid (v.ns ≤ maxLen ∧ v.ng ≤ maxLen ∧ v.nb ≤ maxLen ∧ v.nr ≤ maxLen) := xH1 hs
 have HZ := xH1 hz
 have z5 : v.nt ≤ 1048576 := hz.lt
 have Z6 := xH1 hz.inn
 have ls := xH1 hr.ls
 have lg := xH1 hr.lg
 have lb := xH1 hr.lb
 have lr := xH1 hr.lr
 have lt := xH1 hr.lt
 clear hz
 have B0 : Below w.heap.size w (w.alloc (.cells #[.slice v.s v.ns v.cs, .slice v.g v.ng v.cg, .slice v.b v.nb v.cb, .slice v.r v.nr v.cr, .slice v.t v.nt v.ct] 26)) := xA1
 have k0 : Blk (w.alloc (.cells #[.slice v.s v.ns v.cs, .slice v.g v.ng v.cg, .slice v.b v.nb v.cb, .slice v.r v.nr v.cr, .slice v.t v.nt v.ct] 26)) w.heap.size #[.slice v.s v.ns v.cs, .slice v.g v.ng v.cg, .slice v.b v.nb v.cb, .slice v.r v.nr v.cr, .slice v.t v.nt v.ct] 26 := Blk.new _ _ _
 have q0 : (w.alloc (.cells #[.slice v.s v.ns v.cs, .slice v.g v.ng v.cg, .slice v.b v.nb v.cb, .slice v.r v.nr v.cr, .slice v.t v.nt v.ct] 26)).cell? ⟨w.heap.size, 0, none⟩ = some (.slice v.s v.ns v.cs) := k0.cell 0 rfl
 have q1 : (w.alloc (.cells #[.slice v.s v.ns v.cs, .slice v.g v.ng v.cg, .slice v.b v.nb v.cb, .slice v.r v.nr v.cr, .slice v.t v.nt v.ct] 26)).cell? ⟨w.heap.size, 1, none⟩ = some (.slice v.g v.ng v.cg) := k0.cell 1 rfl
 have q2 : (w.alloc (.cells #[.slice v.s v.ns v.cs, .slice v.g v.ng v.cg, .slice v.b v.nb v.cb, .slice v.r v.nr v.cr, .slice v.t v.nt v.ct] 26)).cell? ⟨w.heap.size, 2, none⟩ = some (.slice v.b v.nb v.cb) := k0.cell 2 rfl
 have q3 : (w.alloc (.cells #[.slice v.s v.ns v.cs, .slice v.g v.ng v.cg, .slice v.b v.nb v.cb, .slice v.r v.nr v.cr, .slice v.t v.nt v.ct] 26)).cell? ⟨w.heap.size, 3, none⟩ = some (.slice v.r v.nr v.cr) := k0.cell 3 rfl
 have q4 : (w.alloc (.cells #[.slice v.s v.ns v.cs, .slice v.g v.ng v.cg, .slice v.b v.nb v.cb, .slice v.r v.nr v.cr, .slice v.t v.nt v.ct] 26)).cell? ⟨w.heap.size, 4, none⟩ = some (.slice v.t v.nt v.ct) := k0.cell 4 rfl
 clear k0
 rcases Bool.eq_false_or_eq_true (progValid p) with hv | hv
 rotate_left
 ·have HB : Hid (onlySems p = false) := xH1 (by unfold onlySems; rw [hv]; rfl)
  have HV := xH1 hv
  clear hv
  go_enter Try.func24, Try.ntmps24
  go_wp2_with fail
  refine (implProgValid_any v p _ (hr.below B0) HZ.out).mono ?_
  rintro e w1 ⟨rfl, hb⟩
  rw [HV.out]
  have B1 := B0.trans (hb.mono B0.size)
  replace q0 := keepc hb q0
  replace q1 := keepc hb q1
  replace q2 := keepc hb q2
  replace q3 := keepc hb q3
  replace q4 := keepc hb q4
  clear hb B0
  go_wp2
  go_ret
  exact ⟨ret_bool (by rw [HB.out]), B1⟩
 have hln := (valid_threads hv).1
 have HV := xH1 hv
 clear hv
 go_enter Try.func24, Try.ntmps24
 go_wp2_with fail
 refine (implProgValid_any v p _ (hr.below B0) HZ.out).mono ?_
 rintro e w1 ⟨rfl, hb⟩
 rw [HV.out]
 have B1 := B0.trans (hb.mono B0.size)
 replace q0 := keepc hb q0
 replace q1 := keepc hb q1
 replace q2 := keepc hb q2
 replace q3 := keepc hb q3
 replace q4 := keepc hb q4
 clear hb B0
 go_wp2
 obtain ⟨vs, hT⟩ := hr.rt
 obtain ⟨b1, o1, ea, g1'⟩ := (hT.below B1).thread (by omega)
 rw [ea] at q4
 have HRP : Hid (∀ w', RdP w' v p → RdP w' ⟨v.s, v.ns, v.cs, v.g, v.ng, v.cg, v.b, v.nb, v.cb, v.r, v.nr, v.cr, some ⟨b1, o1, none⟩, v.nt, v.ct⟩ p) := xH1 (by rw [← ea]; exact fun _ h => h)
 have G1 := xH1 g1'
 rw [ea]
 clear g1' ea hT
 go_loopw [13] (fun i wr => ∃ i' : Nat, i' ≤ v.nt ∧ i = .int .i64 i' ∧ Hid (∀ j, j < i' → ∀ k, k < (p.threads.getD j []).length → onlyOp ((p.threads.getD j []).getD k noOp) = true) ∧ Below w1.heap.size w1 wr) (fun i _ => v.nt - (intOf i).toNat)
 case atStart => exact ⟨0, by omega, rfl, xH1 (by omega), Below.refl _ _⟩
 case round =>
  obtain ⟨i, hi, rfl, hall, hb0⟩ := hrel
  have B2 : Below w.heap.size w wr := B1.trans (hb0.mono B1.size)
  by_cases hlt : i < v.nt
  ·obtain ⟨wo, hwo⟩ : ∃ wo : World, wo = wr := ⟨_, rfl⟩
   rw [← hwo] at hb0 B2 ⊢
   clear hwo wr
   obtain ⟨a2, x2, g1, r2⟩ := G1.out i (by have := lt.out; omega)
   obtain ⟨m, hm⟩ : ∃ m, m = (p.threads.getD i []).length := ⟨_, rfl⟩
   rw [← hm] at g1
   replace g1 := keepc hb0 g1
   replace r2 := r2.below hb0
   have hmm := Z6.out i
   rw [← hm] at hmm
   have HM := xH1 hm
   clear hm
   go_wp2
   go_loopw [19] (fun j wk => ∃ k : Nat, k ≤ m ∧ j = .int .i64 k ∧ Hid (∀ j, j < k → onlyOp ((p.threads.getD i []).getD j noOp) = true) ∧ Below wo.heap.size wo wk) (fun j _ => m - (intOf j).toNat)
   case atStart => exact ⟨0, by omega, rfl, xH1 (by omega), Below.refl _ _⟩
   case round =>
    obtain ⟨k, hk, rfl, hok, hbk⟩ := hrel
    have B3 : Below w.heap.size w wr := B2.trans (hbk.mono B2.size)
    have BW : Below w1.heap.size w1 wr := hb0.trans (hbk.mono hb0.size)
    by_cases hkl : k < m
    ·skip
     obtain ⟨b2, o2, ea2, g2'⟩ := r2.op (by have := HM.out; omega)
     obtain ⟨g2a, g2b, g2c⟩ := g2' k (by have := HM.out; omega)
     obtain ⟨o, ho⟩ : ∃ o, o = (p.threads.getD i []).getD k noOp := ⟨_, rfl⟩
     rw [← ho] at g2a g2b g2c
     replace g2a := keepc hbk g2a
     replace g2b := keepc hbk g2b
     replace g2c := keepc hbk g2c
     have HO := xH1 ho
     subst ea2
     clear g2' ho
     have bA : Below wr.heap.size wr (wr.alloc (.cells #[.int .i64 o.kind, .int .i64 o.on, .int .i64 o.arg] 61)) := xA1
     by_cases h1 : o.kind = 1
     ·have e1 : (o.kind != 1) = false := by simpa using h1
      have HG : Hid (onlyOp o = true) := xH1 (by unfold onlyOp; rw [decide_eq_true h1]; rfl)
      go_wp2
      go_roundw
      case rel => exact ⟨k + 1, by omega, by go_num, xH1 (fun j hj => by
       rcases Nat.lt_or_ge j k with h | h
       ·exact hok.out j h
       ·have : j = k := by omega
        subst this
        rw [← HO.out]; exact HG.out), hbk.alloc hbk.size _⟩
      case measure => simp [intOf]; omega
     ·have e1 : (o.kind != 1) = true := by simpa using h1
      by_cases h2 : o.kind = 2
      ·have e2 : (o.kind != 2) = false := by simpa using h2
       have HG : Hid (onlyOp o = true) := xH1 (by unfold onlyOp; rw [decide_eq_true h2]; simp)
       go_wp2
       go_roundw
       case rel => exact ⟨k + 1, by omega, by go_num, xH1 (fun j hj => by
       rcases Nat.lt_or_ge j k with h | h
       ·exact hok.out j h
       ·have : j = k := by omega
        subst this
        rw [← HO.out]; exact HG.out), hbk.alloc hbk.size _⟩
       case measure => simp [intOf]; omega
      ·have e2 : (o.kind != 2) = true := by simpa using h2
       by_cases h3 : o.kind = 3
       ·have e3 : (o.kind != 3) = false := by simpa using h3
        have HG : Hid (onlyOp o = true) := xH1 (by unfold onlyOp; rw [decide_eq_true h3]; simp)
        go_wp2
        go_roundw
        case rel => exact ⟨k + 1, by omega, by go_num, xH1 (fun j hj => by
       rcases Nat.lt_or_ge j k with h | h
       ·exact hok.out j h
       ·have : j = k := by omega
        subst this
        rw [← HO.out]; exact HG.out), hbk.alloc hbk.size _⟩
        case measure => simp [intOf]; omega
       ·have e3 : (o.kind != 3) = true := by simpa using h3
        have HB : Hid (onlySems p = false) := xH1 (by
         unfold onlySems
         rw [all2_bad (i := i) (k := k) (by have := lt.out; omega) (by have := HM.out; omega) (by rw [← HO.out]; unfold onlyOp; rw [decide_eq_false h1, decide_eq_false h2, decide_eq_false h3]; rfl)]; simp)
        go_wp2
        go_ret
        exact ⟨ret_bool (by rw [HB.out]), B3.trans (bA.mono B3.size)⟩
    ·have hkm : k = m := by omega
     subst hkm
     go_wp2
     go_roundw
     case rel => exact ⟨i + 1, by omega, by go_num, xH1 (fun j hj => by
      rcases Nat.lt_or_ge j i with h | h
      ·exact hall.out j h
      ·have : j = i := by omega
       subst this
       rw [← HM.out]; exact hok.out), BW⟩
     case measure => simp [intOf]; omega
  ·have hkm : i = v.nt := by omega
   subst hkm
   have HB : Hid (onlySems p = true) := xH1 (by unfold onlySems; rw [HV.out, all2_good (by rw [lt.out]; exact hall.out)]; rfl)
   go_wp2
   go_ret
   exact ⟨ret_bool (by rw [HB.out]), B2⟩
def balStep (h : List Int) (o : OpD) : Option (List Int) :=
 if o.kind = 2 then some (h.set o.on.toNat (h.getD o.on.toNat 0 + o.arg))
 else if o.kind = 3 then (if h.getD o.on.toNat 0 - o.arg < 0 then none else some (h.set o.on.toNat (h.getD o.on.toNat 0 - o.arg)))
 else some h
def balRun : List Int → List OpD → Option (List Int)
 | h, [] => some h
 | h, o :: os => (balStep h o).bind fun h' => balRun h' os
def balThread (n : Nat) (t : List OpD) : Bool :=
 match balRun (List.replicate n 0) t with
 | some h => h.all (fun x => decide (x = 0))
 | none => false
def isBalanced (p : Pg) : Bool := progValid p && p.threads.all (balThread p.sems.length)
theorem balRun_append (a b : List OpD) : ∀ h, balRun h (a ++ b) = (balRun h a).bind fun h' => balRun h' b := by
 induction a with
 | nil => intro h; rfl
 | cons o os ih =>
  intro h
  simp only [List.cons_append, balRun]
  cases balStep h o with
  | none => rfl
  | some h' => simp [ih h']
theorem balRun_snoc {h : List Int} {t : List OpD} {k : Nat} (hk : k < t.length) : balRun h (t.take (k + 1)) = (balRun h (t.take k)).bind fun h' => balStep h' (t.getD k noOp) := by
 have e : t.take (k + 1) = t.take k ++ [t.getD k noOp] := by rw [List.take_add_one, List.getElem?_eq_getElem hk]; simp [List.getD, hk]
 rw [e, balRun_append]
 congr 1
 funext h'
 simp only [balRun]
 cases balStep h' (t.getD k noOp) <;> rfl
theorem balRun_none {h : List Int} {t : List OpD} {k : Nat} (hn : balRun h (t.take k) = none) : balRun h t = none := by
 have e : t = t.take k ++ t.drop k := (List.take_append_drop k t).symm
 rw [e, balRun_append, hn]; rfl
theorem bal_bad {p : Pg} {i : Nat} (hi : i < p.threads.length) (h : balThread p.sems.length (p.threads.getD i []) = false) : isBalanced p = false := by
 have : p.threads.all (balThread p.sems.length) = false := by
  rw [List.all_eq_false]
  have e : p.threads.getD i [] = p.threads[i] := by simp [List.getD, hi]
  rw [e] at h
  exact ⟨p.threads[i], List.getElem_mem hi, by rw [h]; simp⟩
 unfold isBalanced; rw [this]; simp
theorem bal_good {p : Pg} (hv : progValid p = true) (h : ∀ i, i < p.threads.length → balThread p.sems.length (p.threads.getD i []) = true) : isBalanced p = true := by
 have : p.threads.all (balThread p.sems.length) = true := by
  rw [List.all_eq_true]
  intro t ht
  obtain ⟨i, hi, rfl⟩ := List.getElem_of_mem ht
  have e : p.threads.getD i [] = p.threads[i] := by simp [List.getD, hi]
  rw [← e]; exact h i hi
 unfold isBalanced; rw [hv, this]; rfl
def Held (n k : Nat) (h : List Int) : Prop := h.length = n ∧ ∀ j, -(9 * (k : Int)) ≤ h.getD j 0 ∧ h.getD j 0 ≤ 9 * (k : Int)
theorem held_start (n : Nat) : Held n 0 (List.replicate n 0) := ⟨by simp, fun j => by
 have : (List.replicate n (0 : Int)).getD j 0 = 0 := by
  simp only [List.getD, List.getElem?_replicate]; split <;> rfl
 rw [this]; simp⟩
theorem held_set {n k : Nat} {h : List Int} {i : Nat} {x : Int} (hh : Held n k h) (hx : -(9 * ((k + 1 : Nat) : Int)) ≤ x ∧ x ≤ 9 * ((k + 1 : Nat) : Int)) : Held n (k + 1) (h.set i x) := ⟨by simpa using hh.1, fun j => by
 have := hh.2 j
 by_cases hj : j < h.length
 ·by_cases hij : i = j
  ·subst hij
   have : (h.set i x).getD i 0 = x := by simp [List.getD, hj]
   rw [this]; exact hx
  ·have : (h.set i x).getD j 0 = h.getD j 0 := by simp [List.getD, List.getElem?_set_ne hij]
   rw [this]; omega
 ·have : (h.set i x).getD j 0 = 0 := by simp [List.getD, Nat.le_of_not_lt hj]
  rw [this]; omega⟩
theorem held_same {n k : Nat} {h : List Int} (hh : Held n k h) : Held n (k + 1) h := ⟨hh.1, fun j => by have := hh.2 j; omega⟩
theorem valid_arg {p : Pg} (hv : progValid p = true) {o : OpD} (ho : opValid p o = true) (hk : o.kind = 2 ∨ o.kind = 3) : (0 ≤ o.on ∧ o.on < p.sems.length) ∧ 1 ≤ o.arg ∧ o.arg ≤ 9 := by
 obtain ⟨_, h2, h3⟩ := opValid_facts ho
 have hs : shared p o.kind = p.sems.length := by unfold shared; rw [if_neg (by omega), if_pos hk]
 rw [hs] at h2
 unfold argOk at h3
 rw [if_pos hk] at h3
 simp only [Bool.and_eq_true, decide_eq_true_eq] at h3
 have hw : within p.sems 1 9 = true := by
  unfold progValid at hv
  simp only [Bool.and_eq_true] at hv
  exact hv.1.1.1.1.1.1
 unfold within at hw
 simp only [Bool.and_eq_true, decide_eq_true_eq, List.all_eq_true] at hw
 have hi : o.on.toNat < p.sems.length := by omega
 have e : p.sems.getD o.on.toNat 0 = p.sems[o.on.toNat] := by simp [List.getD, hi]
 have := hw.2 _ (List.getElem_mem hi)
 rw [e] at h3
 exact ⟨h2, h3.1, by omega⟩

def sumG (g : OpD → Int) : List OpD → Int
 | [] => 0
 | o :: os => g o + sumG g os
theorem sumG_app (g : OpD → Int) : ∀ a b : List OpD, sumG g (a ++ b) = sumG g a + sumG g b
 | [], b => by simp [sumG]
 | o :: a, b => by simp only [List.cons_append, sumG, sumG_app g a b]; omega
variable {p : Pg} {s : StD}
def doneT (p : Pg) (s : StD) (g : OpD → Int) (t : Nat) : Int := sumG g ((p.threads.getD t []).take (s.places.getD t 0).toNat)
def doneA (p : Pg) (s : StD) (g : OpD → Int) : Nat → Int
 | 0 => 0
 | n + 1 => doneA p s g n + doneT p s g n
def done (p : Pg) (s : StD) (g : OpD → Int) : Int := doneA p s g p.threads.length
theorem done_same {s' : StD} (e : s'.places = s.places) (g : OpD → Int) : done p s' g = done p s g := by
 have h : ∀ n, doneA p s' g n = doneA p s g n := fun n => by
  induction n with
  | zero => rfl
  | succ n ih => unfold doneA; rw [ih]; unfold doneT; rw [e]
 exact h _
theorem doneT_goOn {u : Int} (hu : At p s u) (g : OpD → Int) (t : Nat) : doneT p (goOn p s u) g t = doneT p s g t + if t = u.toNat then g (opAt p s u) else 0 := by
 unfold doneT goOn
 dsimp only
 rw [getD_set]
 have hl : u.toNat < s.places.length := by have := hu.rg; omega
 by_cases e : t = u.toNat
 ·subst e
  rw [if_pos ⟨rfl, hl⟩, if_pos rfl]
  have h0 := hu.ge
  have hk : (s.places.getD u.toNat 0).toNat < (p.threads.getD u.toNat []).length := by have := hu.lt; unfold opsOf at this; omega
  rw [show (s.places.getD u.toNat 0 + 1).toNat = (s.places.getD u.toNat 0).toNat + 1 by omega, ← take_snoc _ noOp hk, sumG_app]
  show _ + (g _ + 0) = _ + g _
  rw [Int.add_zero]
  rfl
 ·rw [if_neg (fun h => e h.1), if_neg e, Int.add_zero]
theorem doneA_goOn {u : Int} (hu : At p s u) (g : OpD → Int) : ∀ n : Nat, doneA p (goOn p s u) g n = doneA p s g n + if u.toNat < n then g (opAt p s u) else 0
 | 0 => by simp [doneA]
 | n + 1 => by
  unfold doneA
  rw [doneA_goOn hu g n, doneT_goOn hu]
  by_cases h1 : u.toNat < n
  ·rw [if_pos h1, if_neg (by omega), if_pos (by omega)]; omega
  ·by_cases h2 : n = u.toNat
   ·rw [if_neg h1, if_pos h2, if_pos (by omega)]; omega
   ·rw [if_neg h1, if_neg h2, if_neg (by omega)]; omega
theorem done_goOn {u : Int} (hu : At p s u) (g : OpD → Int) : done p (goOn p s u) g = done p s g + g (opAt p s u) := by
 unfold done
 rw [doneA_goOn hu, if_pos (by have := hu.rg; omega)]
theorem At.goOn {u z : Int} (hz : At p s z) (hne : z ≠ u) (hu : 0 ≤ u) : At p (goOn p s u) z ∧ opAt p (Go.Proofs.Ytoeockmkhpehbaa.goOn p s u) z = opAt p s z := by
 have hne' : z.toNat ≠ u.toNat := by have := hz.rg; omega
 have e : (Go.Proofs.Ytoeockmkhpehbaa.goOn p s u).places.getD z.toNat 0 = s.places.getD z.toNat 0 := by
  unfold Go.Proofs.Ytoeockmkhpehbaa.goOn
  dsimp only
  rw [getD_set, if_neg (fun h => hne' h.1)]
 refine ⟨⟨?_, by rw [e]; exact hz.ge, by rw [e]; exact hz.lt⟩, by unfold opAt; rw [e]⟩
 have := hz.rg
 unfold Go.Proofs.Ytoeockmkhpehbaa.goOn
 dsimp only
 rw [List.length_set]
 exact this
theorem sumZ_app (f : Int → Int) : ∀ a b : List Int, sumZ f (a ++ b) = sumZ f a + sumZ f b
 | [], b => by simp [sumZ]
 | o :: a, b => by simp only [List.cons_append, sumZ, sumZ_app f a b]; omega
theorem sumZ_congr {f f' : Int → Int} : ∀ {l : List Int}, (∀ z ∈ l, f z = f' z) → sumZ f l = sumZ f' l
 | [], _ => rfl
 | z :: l, h => by
  unfold sumZ
  rw [h z (by simp), sumZ_congr fun y hy => h y (by simp [hy])]
theorem sumZ_zero {f : Int → Int} {l : List Int} (h : ∀ z ∈ l, f z = 0) : sumZ f l = 0 := by
 rw [sumZ_congr (f' := fun _ => 0) h]
 induction l with
 | nil => rfl
 | cons z l ih => unfold sumZ; rw [ih fun y hy => h y (by simp [hy])]; rfl
theorem done_goAll (g : OpD → Int) : ∀ (l : List Int) (s : StD), l.Nodup → (∀ z ∈ l, At p s z) → done p (goAll p s l) g = done p s g + sumZ (fun z => g (opAt p s z)) l
 | [], s, _, _ => by show done p s g = _; simp [sumZ]
 | u :: l, s, hn, ha => by
  rw [List.nodup_cons] at hn
  have hu := ha u (by simp)
  have hz : ∀ z ∈ l, At p (goOn p s u) z ∧ opAt p (goOn p s u) z = opAt p s z := fun z hz => (ha z (by simp [hz])).goOn (fun e => hn.1 (e ▸ hz)) hu.rg.1
  show done p (goAll p (goOn p s u) l) g = _
  rw [done_goAll g l (goOn p s u) hn.2 fun z h => (hz z h).1, done_goOn hu]
  rw [sumZ_congr (f := fun z => g (opAt p (goOn p s u) z)) (f' := fun z => g (opAt p s z)) fun z h => by rw [(hz z h).2]]
  show _ = _ + (g (opAt p s u) + sumZ _ l)
  omega
theorem Move.sum {l : List Int} {s' : StD} (h : Move p s l s') (g : OpD → Int) : done p s' g = done p s g + sumZ (fun z => g (opAt p s z)) l := by
 rw [done_same h.pl, done_goAll g l s h.nd h.ok]
theorem sum_told (h : Fits p s) {E : List Ent} (hE : ∀ e ∈ E, e ∈ ents s) (f : OpD → Int) (f' : Ent → Int) (hf : ∀ e ∈ E, ∀ o : OpD, want o e.1 = e → f o = f' e) : sumZ (fun z => f (opAt p s z)) (E.map (·.1)) = (E.map f').sum := by
 induction E with
 | nil => rfl
 | cons e E ih =>
  rw [List.map_cons, List.map_cons, List.sum_cons]
  unfold sumZ
  rw [hf e (by simp) _ (h.entry (hE e (by simp))), ih (fun x hx => hE x (by simp [hx])) fun x hx => hf x (by simp [hx])]
variable {p : Pg} {s : StD} {t : Int}
def gAt (of : OpD → Int) (i : Nat) (o : OpD) : Int := if o.on = i then of o else 0
theorem gAt_no {of : OpD → Int} {i : Nat} {o : OpD} (h : of o = 0) : gAt of i o = 0 := by unfold gAt; rw [h]; split <;> rfl
theorem gAt_ne {of : OpD → Int} {i : Nat} {o : OpD} (h : o.on ≠ i) : gAt of i o = 0 := if_neg h
theorem gAt_eq {of : OpD → Int} {i : Nat} {o : OpD} (h : o.on = i) : gAt of i o = of o := if_pos h
theorem sum_ne {of : OpD → Int} {k : Int} {l : List Int} (hM : Mates p s t k l) {i j : Nat} (hi : (opAt p s t).on = i) (hne : i ≠ j) : sumZ (fun z => gAt of j (opAt p s z)) l = 0 := sumZ_zero fun z hz => gAt_ne (by
 rcases hM z hz with rfl | ⟨-, h1⟩
 ·rw [hi]; omega
 ·rw [h1, hi]; omega)
def ofBal (o : OpD) : Int := if o.kind = 2 then o.arg else if o.kind = 3 then -o.arg else 0
theorem lawSem (h : Fits p s) (ht : Turn p s t) {j : Nat} (hj : j < s.sems.length) (I : (s.sems.getD j noSem).free + done p s (gAt ofBal j) = (s.sems.getD j noSem).limit) :
  ((stepD p s t).sems.getD j noSem).free + done p (stepD p s t) (gAt ofBal j) = ((stepD p s t).sems.getD j noSem).limit := by
 by_cases k2 : (opAt p s t).kind = 2
 ·obtain ⟨i, y, b, e, hi, hlm, hfr, hE⟩ := view2 h ht k2
  rw [hE.mv.sum, hE.se]
  show ((s.sems.set i y).getD j noSem).free + _ = ((s.sems.set i y).getD j noSem).limit
  rw [getD_set]
  have hM : Mates p s t 0 (if b = true then [t] else []) := by cases b; exact Mates.nil _; exact Mates.one _
  by_cases hij : j = i
  ·subst hij
   rw [if_pos ⟨rfl, hj⟩, hlm, hfr, ← I]
   cases b
   ·show _ - 0 + (_ + 0) = _; omega
   ·show _ - (opAt p s t).arg + (_ + (gAt ofBal j (opAt p s t) + 0)) = _
    rw [gAt_eq e, show ofBal (opAt p s t) = (opAt p s t).arg from if_pos k2]
    omega
  ·rw [if_neg (fun h => hij h.1), sum_ne hM e (fun h => hij h.symm), Int.add_zero]; exact I
 by_cases k3 : (opAt p s t).kind = 3
 ·obtain ⟨i, e, hi, ⟨-, h1⟩ | ⟨y, P, hlm, hfr, hin, -, hE⟩⟩ := view3 h ht k3
  ·rw [h1, done_same (s := s) (s' := faultIt s 1) rfl]; exact I
  ·rw [hE.mv.sum, hE.se]
   show ((s.sems.set i y).getD j noSem).free + _ = ((s.sems.set i y).getD j noSem).limit
   have hEn : ∀ x ∈ P.map fun z => ((z.1, 2, (i : Int), z.2) : Ent), x ∈ ents s ∧ x.2.1 = 2 ∧ x.2.2.1 = i := fun x hx => by
    obtain ⟨z, hz, rfl⟩ := List.mem_map.1 hx
    exact ⟨hin z hz, rfl, rfl⟩
   have hM := Mates.of (t := t) h e hEn
   have hmf : (P.map fun z => ((z.1, 2, (i : Int), z.2) : Ent)).map (·.1) = P.map (·.1) := by rw [List.map_map]; rfl
   rw [hmf] at hM
   rw [getD_set]
   by_cases hij : j = i
   ·subst hij
    have hs := sum_told h (fun x hx => (hEn x hx).1) (gAt ofBal j) (fun x => x.2.2.2) fun x hx o ho => by
     obtain ⟨z, hz, rfl⟩ := List.mem_map.1 hx
     obtain ⟨h1, h2⟩ := want_kind ho
     have h3 : (if o.kind = 2 ∨ o.kind = 8 then o.arg else 0) = z.2 := congrArg (fun q : Ent => q.2.2.2) ho
     rw [if_pos (.inl h1)] at h3
     rw [gAt_eq h2, show ofBal o = o.arg from if_pos h1]
     exact h3
    rw [hmf, List.map_map] at hs
    have hs2 : sumZ (fun z => gAt ofBal j (opAt p s z)) (P.map (·.1)) = (P.map (·.2)).sum := hs
    rw [if_pos ⟨rfl, hj⟩, hlm, hfr, ← I, sumZ_app, hs2]
    show _ - _ + (_ + (_ + (gAt ofBal j (opAt p s t) + 0))) = _
    rw [gAt_eq e, show ofBal (opAt p s t) = -(opAt p s t).arg by unfold ofBal; rw [if_neg k2, if_pos k3]]
    omega
   ·rw [if_neg (fun h => hij h.1), sum_ne hM e (fun h => hij h.symm), Int.add_zero]; exact I
 obtain ⟨s1, l, m, hE, hM, hsm, -, -, -, -, -, -, -, h3, -, h2, -⟩ := view_all h ht
 rw [hE.mv.sum, hE.se, hsm k2 k3, sumZ_zero (f := fun z => gAt ofBal j (opAt p s z)), Int.add_zero]
 ·exact I
 intro z hz
 refine gAt_no ?_
 unfold ofBal
 rcases hM z hz with rfl | ⟨h1, -⟩
 ·rw [if_neg k2, if_neg k3]
 ·rw [if_neg (fun h4 => k3 (h2 (h1.symm.trans h4))), if_neg (fun h4 => h3 (h1.symm.trans h4))]
def Over (s : StD) : Prop := s.fault = 0 ∧ ∀ t, t < s.status.length → s.status.getD t 0 = 3
theorem done_start (g : OpD → Int) : done p (startOf p) g = 0 := by
 have h1 : ∀ t, doneT p (startOf p) g t = 0 := fun t => by
  unfold doneT
  have : (startOf p).places.getD t 0 = 0 := by
   show (p.threads.map fun _ => (0 : Int)).getD t 0 = 0
   rw [List.getD_eq_getElem?_getD, List.getElem?_map]
   cases p.threads[t]? <;> rfl
  rw [this]
  rfl
 have h2 : ∀ n, doneA p (startOf p) g n = 0 := fun n => by
  induction n with
  | zero => rfl
  | succ n ih => unfold doneA; rw [ih, h1]; rfl
 exact h2 _
def firstGt (x : Int) : List Int → Option Int
 | [] => none
 | t :: l => if x < t then some t else firstGt x l
def nextT (l tr : List Int) : Int := if tr.length = 0 then l.getD 0 0 else (firstGt (tr.getD (tr.length - 1) 0) l).getD (l.getD 0 0)
def chTurns (s : StD) (tr : List Int) : Option Int := if (readyOf s).length = 0 ∨ 100 ≤ tr.length then none else some (nextT (readyOf s) tr)
theorem firstGt_mem {x : Int} : ∀ {l : List Int} {t : Int}, firstGt x l = some t → t ∈ l
 | [], _, h => by cases h
 | y :: l, t, h => by
  unfold firstGt at h
  split at h
  ·obtain rfl := Option.some.inj h; simp
  ·exact List.mem_cons_of_mem _ (firstGt_mem h)
theorem firstGt_no {x : Int} : ∀ {l : List Int}, (∀ j, j < l.length → l.getD j 0 ≤ x) → firstGt x l = none
 | [], _ => rfl
 | y :: l, h => by
  have h0 : y ≤ x := h 0 (by simp)
  unfold firstGt
  rw [if_neg (by omega)]
  exact firstGt_no fun j hj => h (j + 1) (by simpa using hj)
theorem firstGt_at {x : Int} : ∀ {l : List Int} {k : Nat}, k < l.length → x < l.getD k 0 → (∀ j, j < k → l.getD j 0 ≤ x) → firstGt x l = some (l.getD k 0)
 | [], _, h, _, _ => by cases h
 | y :: l, 0, _, h, _ => by unfold firstGt; exact if_pos h
 | y :: l, k + 1, hk, h, hall => by
  have h0 : y ≤ x := hall 0 (by omega)
  unfold firstGt
  rw [if_neg (by omega)]
  exact firstGt_at (by simpa using hk) h fun j hj => hall (j + 1) (by omega)
theorem chTurns_mem : ∀ s tr t, chTurns s tr = some t → t ∈ readyOf s := fun s tr t h => by
 unfold chTurns at h
 split at h
 ·cases h
 ·next hn =>
  obtain rfl := Option.some.inj h
  have h0 := head_mem (l := readyOf s) fun e => hn (.inl e)
  unfold nextT
  split
  ·exact h0
  ·cases e : firstGt (tr.getD (tr.length - 1) 0) (readyOf s) with
   | none => exact h0
   | some t => exact firstGt_mem e
theorem chTurns_100 : ∀ s tr, 100 ≤ tr.length → chTurns s tr = none := fun _ _ h => if_pos (.inr h)
theorem implGt_any (x y : Int) (B : Nat) (w : World) (hc : w.cell? ⟨B, 0, none⟩ = some (.int .i64 y)) :
  Calls Try.prog 46 (#[.int .i64 x] ++ #[.pointer (some ⟨B, 0, none⟩)]) w fun e w' => e = .returned (.bool (decide (y < x))) ∧ w' = w := by
 show Calls Try.prog 46 #[.int .i64 x, .pointer (some ⟨B, 0, none⟩)] w _
 go_enter Try.func46, Try.ntmps46
 go_wp2
 go_ret
 exact ⟨rfl, rfl⟩
theorem implIdxGt_any (a : Option Addr) (n c : Nat) (l : List Int) (y : Int) (B : Nat) (w : World) (hl : l.length = n) (hn : n ≤ 8) (hr : Rd w a (ints l)) (hc : w.cell? ⟨B, 0, none⟩ = some (.int .i64 y)) :
  Calls Try.prog 45 #[.slice a n c, .func (.func 46) #[] #[.pointer (some ⟨B, 0, none⟩)]] w fun e w' => w' = w ∧ ((e = .returned (.int .i64 (-1)) ∧ ∀ j, j < n → l.getD j 0 ≤ y) ∨ ∃ k : Nat, e = .returned (.int .i64 k) ∧ k < n ∧ y < l.getD k 0 ∧ ∀ j, j < k → l.getD j 0 ≤ y) := by
 have HL := xH1 hl
 have HC := xH1 hc
 clear hl hc
 go_enter Try.func45, Try.ntmps45
 go_wp2
 go_loopw [8] (fun i wr => ∃ k : Nat, k ≤ n ∧ i = .int .i64 k ∧ Hid (∀ j, j < k → l.getD j 0 ≤ y) ∧ wr = w) (fun i _ => n - (intOf i).toNat)
 case atStart => exact ⟨0, by omega, rfl, xH1 (by omega), rfl⟩
 case round =>
  obtain ⟨k, hk, rfl, hall, rfl⟩ := hrel
  by_cases hlt : k < n
  ·obtain ⟨b, o, rfl, hcc⟩ := hr.int (by have := HL.out; omega)
   have g := hcc k (by have := HL.out; omega)
   obtain ⟨x, hx⟩ : ∃ x, x = l.getD k 0 := ⟨_, rfl⟩
   rw [← hx] at g
   have HX := xH1 hx
   clear hcc hx
   go_wp2_with fail
   refine (implGt_any x y B _ HC.out).mono ?_
   rintro e wz ⟨rfl, hw⟩
   obtain rfl := hw
   by_cases e : y < x
   ·rw [decide_eq_true e]
    have HE := xH1 e
    clear e
    go_wp2
    go_ret
    exact ⟨rfl, .inr ⟨k, rfl, hlt, by rw [← HX.out]; exact HE.out, hall.out⟩⟩
   ·rw [decide_eq_false e]
    have HE := xH1 e
    clear e
    go_wp2
    go_roundw
    case rel => exact ⟨k + 1, by omega, by go_num, xH1 (fun j hj => by
      rcases Nat.lt_or_ge j k with h | h
      ·exact hall.out j h
      ·have : j = k := by omega
       subst this
       rw [← HX.out]; have := HE.out; omega), trivial⟩
    case measure => simp [intOf]; omega
  ·have hkm : k = n := by omega
   subst hkm
   go_wp2
   go_ret
   exact ⟨rfl, .inl ⟨rfl, hall.out⟩⟩
theorem runturns_chooses (w : World) (p : Pg) : Chooses w 44 #[] p chTurns := by
 intro v L s a b n c m d tr W hb hs hr hl h100 hrd hm hm8 hrl
 show Calls Try.prog 44 #[.agg #[.slice v.pl.a v.pl.n v.pl.c, .slice v.st.a v.st.n v.st.c, .slice v.se.a v.se.n v.se.c, .slice v.on.a v.on.n v.on.c, .slice v.gr.a v.gr.n v.gr.c, .slice v.ba.a v.ba.n v.ba.c, .slice v.ch.a v.ch.n v.ch.c, .slice v.sa.a v.sa.n v.sa.c, .int .i64 v.fl, .slice a n c], .slice b m d] W _
 obtain ⟨l, el⟩ : ∃ l, l = readyOf s := ⟨_, rfl⟩
 unfold chTurns
 rw [← el] at hm hrl ⊢
 have HL := xH1 hl
 have HM := xH1 hm
 have HRD := xH1 hrd
 have HRL := xH1 hrl
 clear hb hs hr hl hrd hm hrl el
 have F := (Fr.start W).alloc (rC v a n c) 39
 have cr := F.c10 0 rfl
 have HB := xH1 F.bel
 go_enter Try.func44, Try.ntmps44
 by_cases h0 : m = 0
 ·subst h0
  rw [if_pos (.inl HM.out)]
  clear F
  go_wp2
  exact bodyPost_ret (v := .tuple #[.int .i64 0, .bool false]) (by simp [results, Try.results44, go_sem]) rfl ⟨rfl, HB.out⟩
 by_cases h1 : n = 100
 ·subst h1
  rw [if_pos (.inr (by rw [HL.out]; omega))]
  clear F
  go_wp2
  exact bodyPost_ret (v := .tuple #[.int .i64 0, .bool false]) (by simp [results, Try.results44, go_sem]) rfl ⟨rfl, HB.out⟩
 rw [if_neg (by have := HM.out; have := HL.out; omega)]
 have t1 : ((m : Int) == 0) = false := by simpa using h0
 have t2 : ((n : Int) == 100) = false := by simp; omega
 unfold nextT
 by_cases h2 : n = 0
 ·subst h2
  rw [if_pos HL.out]
  obtain ⟨b1, o1, rfl, g'⟩ := (HRL.out.below HB.out).int (by have := HM.out; omega)
  have g : World.cell? _ ⟨b1, o1, none⟩ = some (.int .i64 (l.getD 0 0)) := g' 0 (by have := HM.out; omega)
  clear F g'
  have m0 : ((0 : Int) < (m : Int)) := by omega
  go_wp2
  exact bodyPost_ret (v := .tuple #[.int .i64 (l.getD 0 0), .bool true]) (by simp [results, Try.results44, go_sem]) rfl ⟨rfl, HB.out⟩
 rw [if_neg (by have := HL.out; omega)]
 obtain ⟨b1, o1, rfl, g'⟩ := (HRD.out.below HB.out).int (by have := HL.out; omega)
 have g := g' (tr.length - 1) (by have := HL.out; omega)
 rw [HL.out] at g ⊢
 obtain ⟨y, hy⟩ : ∃ y, y = tr.getD (n - 1) 0 := ⟨_, rfl⟩
 rw [← hy] at g ⊢
 obtain ⟨n', rfl⟩ : ∃ n', n = n' + 1 := ⟨n - 1, by omega⟩
 rw [show n' + 1 - 1 = n' from rfl] at g
 have F2 := F.alloc #[.int .i64 y] 3
 simp only [World.size_alloc] at F2
 have HB2 := xH1 F2.bel
 have HC2 := xH1 (F2.c1 0 rfl).1
 rw [show ((n' + 1 : Nat) : Int) = (n' : Int) + 1 by simp] at t2
 clear F g' hy F2
 go_wp2_with fail
 refine (implIdxGt_any b m d l y _ _ HM.out hm8 (HRL.out.below HB2.out) HC2.out).mono ?_
 rintro e wz ⟨hw, h⟩
 obtain rfl := hw
 obtain ⟨b2, o2, rfl, g2⟩ := (HRL.out.below HB2.out).int (by have := HM.out; omega)
 rcases h with ⟨rfl, hall⟩ | ⟨k, rfl, hk, hgt, hall⟩
 ·have g3 : World.cell? _ ⟨b2, o2, none⟩ = some (.int .i64 (l.getD 0 0)) := g2 0 (by have := HM.out; omega)
  have HFG := xH1 (firstGt_no (x := y) fun j hj => hall j (by have := HM.out; omega))
  have m0 : ((0 : Int) < (m : Int)) := by omega
  clear hall g2
  go_wp2
  exact bodyPost_ret (v := .tuple #[.int .i64 (l.getD 0 0), .bool true]) (by simp [results, Try.results44, go_sem]) rfl ⟨by rw [HFG.out]; rfl, HB2.out⟩
 ·have g3 := g2 k (by have := HM.out; omega)
  have HFG := xH1 (firstGt_at (x := y) (by have := HM.out; omega) hgt hall)
  clear hall g2 hgt
  go_wp2
  exact bodyPost_ret (v := .tuple #[.int .i64 (l.getD k 0), .bool true]) (by simp [results, Try.results44, go_sem]) rfl ⟨by rw [HFG.out]; rfl, HB2.out⟩
theorem implRunTurns_ok (u : PV) (p : Pg) (w : World) (hp : RdP w u p) (hv : progValid p = true) :
  Calls Try.prog 15 #[.agg #[.slice u.s u.ns u.cs, .slice u.g u.ng u.cg, .slice u.b u.nb u.cb, .slice u.r u.nr u.cr, .slice u.t u.nt u.ct]] w fun e w' => Below w.heap.size w w' ∧ ∃ (s : StD) (tr : List Int) (v : StV) (L : StL) (a : Option Addr) (c : Nat), walkD p chTurns 101 (startOf p) [] = some (s, tr) ∧ e = .returned (.tuple #[.agg #[.slice v.pl.a v.pl.n v.pl.c, .slice v.st.a v.st.n v.st.c, .slice v.se.a v.se.n v.se.c, .slice v.on.a v.on.n v.on.c, .slice v.gr.a v.gr.n v.gr.c, .slice v.ba.a v.ba.n v.ba.c, .slice v.ch.a v.ch.n v.ch.c, .slice v.sa.a v.sa.n v.sa.c, .int .i64 v.fl, .slice a tr.length c], .bool true]) ∧ RunO w.heap.size w' v L a c s tr ∧ Run p s := by
 have HP := xH1 hp
 have HV := xH1 hv
 clear hp hv
 have F := ((Fr.start w).alloc (pvC u) 26).alloc z10 39
 simp only [World.size_alloc] at F
 have cp := F.c5 1 rfl
 go_enter Try.func15, Try.ntmps15
 go_wp2_with fail
 refine (implWalk_ok u p _ 44 #[] chTurns (HP.out.below F.bel) HV.out (fun _ _ => rfl) (runturns_chooses _ p) chTurns_100).mono ?_
 rintro e w1 ⟨hb, ⟨hn, -⟩ | ⟨s, tr, v, L, a, c, hwk, rfl, ho, hr⟩⟩
 ·obtain ⟨r, hr⟩ := walkD_some (p := p) chTurns_mem chTurns_100 101 (startOf p) [] rfl (by simp)
  rw [hn] at hr
  cases hr
 have HWK := xH1 hwk
 have HR := xH1 hr
 have HN := xH1 (NewB.lower ho.nw F.bel.size)
 have G := Sf.gainR F hb ho.tr ho.st ho.nw
 clear hb hwk ho hr F cp
 have cz := G.fr.c10 1 rfl
 have G2 := G.set10 1 rfl (.slice v.pl.a v.pl.n v.pl.c) (.slice v.st.a v.st.n v.st.c) (.slice v.se.a v.se.n v.se.c) (.slice v.on.a v.on.n v.on.c) (.slice v.gr.a v.gr.n v.gr.c) (.slice v.ba.a v.ba.n v.ba.c) (.slice v.ch.a v.ch.n v.ch.c) (.slice v.sa.a v.sa.n v.sa.c) (.int .i64 v.fl) (.slice a tr.length c)
 go_wp2
 exact bodyPost_ret (v := .tuple #[.agg #[.slice v.pl.a v.pl.n v.pl.c, .slice v.st.a v.st.n v.st.c, .slice v.se.a v.se.n v.se.c, .slice v.on.a v.on.n v.on.c, .slice v.gr.a v.gr.n v.gr.c, .slice v.ba.a v.ba.n v.ba.c, .slice v.ch.a v.ch.n v.ch.c, .slice v.sa.a v.sa.n v.sa.c, .int .i64 v.fl, .slice a tr.length c], .bool true]) (by simp [results, Try.results15, go_sem, G2.fr.c10 1 rfl]) rfl ⟨G2.bel, s, tr, v, L, a, c, HWK.out, rfl, ⟨G2.st.sub fun q hq => xQ1 (.inl hq), HN.out, G2.fr.own 0 rfl⟩, HR.out⟩
def overB (s : StD) : Bool := decide (s.fault = 0) && s.status.all (fun x => decide (x = 3))
theorem overB_over {s : StD} (h : overB s = true) : Over s := by
 unfold overB at h
 obtain ⟨h1, h2⟩ := Bool.and_eq_true_iff.1 h
 refine ⟨by simpa using h1, fun t ht => ?_⟩
 have := List.all_eq_true.1 h2 (s.status.getD t 0) (by
  rw [List.getD_eq_getElem?_getD, List.getElem?_eq_getElem ht]
  exact List.getElem_mem ht)
 simpa using this
theorem implNot3_any (x : Int) (w : World) :
  Calls Try.prog 82 #[.int .i64 x] w fun e w' => e = .returned (.bool (x != 3)) ∧ w' = w := by
 go_enter Try.func82, Try.ntmps82
 go_wp2
 go_ret
 exact ⟨rfl, rfl⟩
theorem implIdx3_any (a : Option Addr) (n c : Nat) (l : List Int) (w : World) (hl : l.length = n) (hn : n ≤ 8) (hr : Rd w a (ints l)) :
  Calls Try.prog 45 #[.slice a n c, .func (.func 82) #[] #[]] w fun e w' => w' = w ∧ ((e = .returned (.int .i64 (-1)) ∧ ∀ j, j < n → l.getD j 0 = 3) ∨ ∃ k : Nat, e = .returned (.int .i64 k) ∧ k < n ∧ l.getD k 0 ≠ 3) := by
 have HL := xH1 hl
 clear hl
 go_enter Try.func45, Try.ntmps45
 go_wp2
 go_loopw [8] (fun i wr => ∃ k : Nat, k ≤ n ∧ i = .int .i64 k ∧ Hid (∀ j, j < k → l.getD j 0 = 3) ∧ wr = w) (fun i _ => n - (intOf i).toNat)
 case atStart => exact ⟨0, by omega, rfl, xH1 (by omega), rfl⟩
 case round =>
  obtain ⟨k, hk, rfl, hall, rfl⟩ := hrel
  by_cases hlt : k < n
  ·obtain ⟨b, o, rfl, hcc⟩ := hr.int (by have := HL.out; omega)
   have g := hcc k (by have := HL.out; omega)
   obtain ⟨x, hx⟩ : ∃ x, x = l.getD k 0 := ⟨_, rfl⟩
   rw [← hx] at g
   have HX := xH1 hx
   clear hcc hx
   go_wp2_with fail
   refine (implNot3_any x _).mono ?_
   rintro e wz ⟨rfl, hw⟩
   obtain rfl := hw
   by_cases e : x = 3
   ·have t1 : (x != 3) = false := by simpa using e
    rw [t1]
    have HE := xH1 e
    clear e t1
    go_wp2
    go_roundw
    case rel => exact ⟨k + 1, by omega, by go_num, xH1 (fun j hj => by
      rcases Nat.lt_or_ge j k with h | h
      ·exact hall.out j h
      ·have : j = k := by omega
       subst this
       rw [← HX.out]; exact HE.out), trivial⟩
    case measure => simp [intOf]; omega
   ·have t1 : (x != 3) = true := by simpa using e
    rw [t1]
    have HE := xH1 e
    clear e t1
    go_wp2
    go_ret
    exact ⟨rfl, .inr ⟨k, rfl, hlt, by rw [← HX.out]; exact HE.out⟩⟩
  ·have hkm : k = n := by omega
   subst hkm
   go_wp2
   go_ret
   exact ⟨rfl, .inl ⟨rfl, hall.out⟩⟩
theorem implHas3_any (a : Option Addr) (n c : Nat) (l : List Int) (w : World) (hl : l.length = n) (hn : n ≤ 8) (hr : Rd w a (ints l)) :
  Calls Try.prog 63 #[.slice a n c, .func (.func 82) #[] #[]] w fun e w' => w' = w ∧ e = .returned (.bool (!l.all (fun x => decide (x = 3)))) := by
 have HL := xH1 hl
 clear hl
 go_enter Try.func63, Try.ntmps63
 go_wp2_with fail
 refine (implIdx3_any a n c l w HL.out hn hr).mono ?_
 rintro e wz ⟨hw, h⟩
 obtain rfl := hw
 rcases h with ⟨rfl, hall⟩ | ⟨k, rfl, hk, hne⟩
 ·have t1 : l.all (fun x => decide (x = 3)) = true := by
   rw [List.all_eq_true]
   intro x hx
   obtain ⟨j, hj, rfl⟩ := List.mem_iff_getElem.1 hx
   have := hall j (by have := HL.out; omega)
   rw [List.getD_eq_getElem?_getD, List.getElem?_eq_getElem hj] at this
   simpa using this
  have T1 := xH1 t1
  clear t1 hall
  go_wp2
  go_ret
  exact ⟨rfl, by rw [T1.out]; rfl⟩
 ·have t1 : l.all (fun x => decide (x = 3)) = false := by
   rw [List.all_eq_false]
   have hj : k < l.length := by have := HL.out; omega
   rw [List.getD_eq_getElem?_getD, List.getElem?_eq_getElem hj] at hne
   exact ⟨_, List.getElem_mem hj, by simpa using hne⟩
  have T1 := xH1 t1
  have k0 : (0 : Int) ≤ (k : Int) := by omega
  clear t1 hne
  go_wp2
  go_ret
  exact ⟨rfl, by rw [T1.out]; rfl⟩
theorem implAllDone_ok (v : StV) (L : StL) (s : StD) (w : World) (hr : StR w v L s) (hn : s.status.length ≤ 8) :
  Calls Try.prog 48 #[.agg #[.slice v.pl.a v.pl.n v.pl.c, .slice v.st.a v.st.n v.st.c, .slice v.se.a v.se.n v.se.c, .slice v.on.a v.on.n v.on.c, .slice v.gr.a v.gr.n v.gr.c, .slice v.ba.a v.ba.n v.ba.c, .slice v.ch.a v.ch.n v.ch.c, .slice v.sa.a v.sa.n v.sa.c, .int .i64 v.fl]] w fun e w' => e = .returned (.bool (s.status.all (fun x => decide (x = 3)))) ∧ Below w.heap.size w w' := by
 have HS := xH1 hr
 clear hr
 have F := (Fr.start w).alloc (svC v) 37
 have cs := F.c9 0 rfl
 have HB := xH1 F.bel
 go_enter Try.func48, Try.ntmps48
 go_wp2_with fail
 refine (implHas3_any v.st.a v.st.n v.st.c s.status _ HS.out.st.len.symm (by rw [HS.out.st.len]; exact hn) (HS.out.st.rd.below HB.out)).mono ?_
 rintro e wz ⟨hw, rfl⟩
 obtain rfl := hw
 clear F cs
 go_wp2
 go_ret
 exact ⟨by simp, HB.out⟩
theorem implIsOver_ok (u : PV) (p : Pg) (v : StV) (L : StL) (s : StD) (w : World) (hp : RdP w u p) (hr : StR w v L s) (hf : Fits p s) :
  Calls Try.prog 16 #[.agg #[.slice u.s u.ns u.cs, .slice u.g u.ng u.cg, .slice u.b u.nb u.cb, .slice u.r u.nr u.cr, .slice u.t u.nt u.ct], .agg #[.slice v.pl.a v.pl.n v.pl.c, .slice v.st.a v.st.n v.st.c, .slice v.se.a v.se.n v.se.c, .slice v.on.a v.on.n v.on.c, .slice v.gr.a v.gr.n v.gr.c, .slice v.ba.a v.ba.n v.ba.c, .slice v.ch.a v.ch.n v.ch.c, .slice v.sa.a v.sa.n v.sa.c, .int .i64 v.fl]] w fun e w' => e = .returned (.bool (overB s)) ∧ Below w.heap.size w w' := by
 have HS := xH1 hr
 have HP := xH1 hp
 have HF := xH1 hf
 have N8 : Hid (s.status.length ≤ 8) := xH1 (by have h1 := hf.nst; have h2 := (valid_small hf.prog).2.2.2.2.1; omega)
 have HFL : Hid (v.fl = s.fault) := xH1 hr.fl
 clear hr hp hf
 have F := ((Fr.start w).alloc (pvC u) 26).alloc (svC v) 37
 simp only [World.size_alloc] at F
 have cs := F.c9 0 rfl
 have cp := F.c5 1 rfl
 go_enter Try.func16, Try.ntmps16
 go_wp2_with fail
 refine (implStateFits_ok u p v L s _ (HP.out.below F.bel) (HS.out.below F.bel) HF.out).mono ?_
 rintro e w1 ⟨rfl, hb⟩
 replace F := F.call hb
 replace cs := F.c9 0 rfl
 replace cp := F.c5 1 rfl
 clear hb
 by_cases h0 : v.fl = 0
 ·have t1 : ((v.fl : Int) == 0) = true := by simpa using h0
  have H0 := xH1 h0
  clear h0
  go_wp2_with fail
  refine (implAllDone_ok v L s _ (HS.out.below F.bel) N8.out).mono ?_
  rintro e w2 ⟨rfl, hb⟩
  have HB := xH1 (F.call hb).bel
  clear F hb cs cp
  go_wp2
  go_ret
  exact ⟨by unfold overB; rw [← HFL.out, H0.out]; simp, HB.out⟩
 ·have t1 : ((v.fl : Int) == 0) = false := by simpa using h0
  have H0 := xH1 h0
  have HB := xH1 F.bel
  clear h0 F
  go_wp2
  go_ret
  exact ⟨by unfold overB; rw [← HFL.out, decide_eq_false H0.out]; rfl, HB.out⟩
variable {p : Pg} {s : StD} {t : Int} {ch : StD → List Int → Option Int} {tr : List Int}
theorem run_end (hv : progValid p = true) (hw : walkD p ch 101 (startOf p) [] = some (s, tr)) : Run p s :=
 (walkD_inv (I := fun _ => True) (fun _ _ _ _ _ => trivial) 101 (startOf p) [] (s, tr) (Run.start hv) trivial hw).1
theorem zeros_at (n j : Nat) : (List.replicate n (0 : Int)).getD j 0 = 0 := by
 simp only [List.getD, List.getElem?_replicate]
 split <;> rfl
theorem At.mem (h : At p s t) : opAt p s t ∈ p.threads.getD t.toNat [] := by
 have h1 := h.lt
 have h0 := h.ge
 unfold opsOf at h1
 have hk : (s.places.getD t.toNat 0).toNat < (p.threads.getD t.toNat []).length := by omega
 have e : opAt p s t = (p.threads.getD t.toNat [])[(s.places.getD t.toNat 0).toNat] := by
  unfold opAt opsOf
  rw [List.getD_eq_getElem?_getD (l := p.threads.getD t.toNat []), List.getElem?_eq_getElem hk]
  rfl
 rw [e]
 exact List.getElem_mem hk
theorem all2_mem {q : OpD → Bool} (h : all2 p q = true) {i : Nat} {o : OpD} (ho : o ∈ p.threads.getD i []) : q o = true := by
 unfold all2 at h
 rw [List.all_eq_true] at h
 by_cases hi : i < p.threads.length
 ·rw [List.getD_eq_getElem?_getD, List.getElem?_eq_getElem hi] at ho
  have := h _ (List.getElem_mem hi)
  rw [List.all_eq_true] at this
  exact this o ho
 ·rw [List.getD_eq_getElem?_getD, List.getElem?_eq_none (by omega)] at ho
  cases ho
theorem only_kind (h : onlySems p = true) (ht : At p s t) : (opAt p s t).kind = 1 ∨ (opAt p s t).kind = 2 ∨ (opAt p s t).kind = 3 := by
 unfold onlySems at h
 have h1 := all2_mem (by simpa using (Bool.and_eq_true_iff.1 h).2) ht.mem
 unfold onlyOp at h1
 simp only [Bool.or_eq_true, decide_eq_true_eq] at h1
 omega
def BalP (n : Nat) (h : List Int) (pre : List OpD) : Prop := h.length = n ∧ ∀ j, j < n → h.getD j 0 = sumG (gAt ofBal j) pre ∧ 0 ≤ h.getD j 0
theorem bal_inv {n : Nat} : ∀ (ops : List OpD) (h0 h : List Int) (pre : List OpD), (∀ o ∈ ops, 0 ≤ o.on ∧ (o.kind = 2 ∨ o.kind = 3 → o.on < n) ∧ (o.kind = 2 → 0 ≤ o.arg)) → BalP n h0 pre → balRun h0 ops = some h → BalP n h (pre ++ ops)
 | [], h0, h, pre, _, hp, e => by
  obtain rfl := Option.some.inj e
  rw [List.append_nil]
  exact hp
 | o :: os, h0, h, pre, ho, hp, e => by
  unfold balRun at e
  obtain ⟨o0, o1, o2⟩ := ho o (by simp)
  have hs : ∀ j, sumG (gAt ofBal j) (pre ++ [o]) = sumG (gAt ofBal j) pre + gAt ofBal j o := fun j => by
   rw [sumG_app]
   show _ + (gAt ofBal j o + 0) = _
   omega
  have hset : ∀ x : Int, (o.kind = 2 ∨ o.kind = 3) → x = h0.getD o.on.toNat 0 + ofBal o → 0 ≤ x → BalP n (h0.set o.on.toNat x) (pre ++ [o]) := fun x hk hx h0x => by
   refine ⟨by rw [List.length_set]; exact hp.1, fun j hj => ?_⟩
   have hon := o1 hk
   rw [getD_set, hs]
   by_cases hij : j = o.on.toNat
   ·subst hij
    rw [if_pos ⟨rfl, by rw [hp.1]; exact hj⟩, gAt_eq (by omega), ← (hp.2 _ hj).1]
    exact ⟨hx, h0x⟩
   ·rw [if_neg (fun h => hij h.1), gAt_ne (by omega), Int.add_zero]
    exact hp.2 j hj
  rw [show pre ++ o :: os = (pre ++ [o]) ++ os by simp]
  cases e1 : balStep h0 o with
  | none => rw [e1] at e; cases e
  | some h1 =>
   rw [e1] at e
   refine bal_inv os h1 h (pre ++ [o]) (fun x hx => ho x (by simp [hx])) ?_ e
   unfold balStep at e1
   by_cases k2 : o.kind = 2
   ·rw [if_pos k2] at e1
    obtain rfl := Option.some.inj e1
    have hof : ofBal o = o.arg := if_pos k2
    refine hset _ (.inl k2) (by rw [hof]) ?_
    have := (hp.2 o.on.toNat (by have := o1 (.inl k2); omega)).2
    have := o2 k2
    omega
   ·rw [if_neg k2] at e1
    by_cases k3 : o.kind = 3
    ·rw [if_pos k3] at e1
     split at e1
     ·cases e1
     ·next hge =>
      obtain rfl := Option.some.inj e1
      have hof : ofBal o = -o.arg := by unfold ofBal; rw [if_neg k2, if_pos k3]
      exact hset _ (.inr k3) (by rw [hof]; omega) (by omega)
    ·rw [if_neg k3] at e1
     obtain rfl := Option.some.inj e1
     refine ⟨hp.1, fun j hj => ?_⟩
     rw [hs, gAt_no (by unfold ofBal; rw [if_neg k2, if_neg k3]), Int.add_zero]
     exact hp.2 j hj
theorem opv_at (h : progValid p = true) {x : List OpD} (hx : x ∈ p.threads) {o : OpD} (ho : o ∈ x) : opValid p o = true := by
 unfold progValid at h
 simp only [Bool.and_eq_true, decide_eq_true_eq, List.all_eq_true] at h
 exact (h.2 x hx).2 o ho
theorem op_facts (hv : progValid p = true) {i : Nat} {o : OpD} (ho : o ∈ p.threads.getD i []) : 0 ≤ o.on ∧ (o.kind = 2 ∨ o.kind = 3 → o.on < p.sems.length) ∧ (o.kind = 2 → 0 ≤ o.arg) := by
 have hop : opValid p o = true := by
  by_cases hi : i < p.threads.length
  ·rw [List.getD_eq_getElem?_getD, List.getElem?_eq_getElem hi] at ho
   exact opv_at hv (List.getElem_mem hi) ho
  ·rw [List.getD_eq_getElem?_getD, List.getElem?_eq_none (by omega)] at ho
   cases ho
 obtain ⟨h0, h1⟩ := op_on hop
 refine ⟨h0, fun hk => ?_, fun hk => ?_⟩
 ·rw [show shared p o.kind = p.sems.length by unfold shared; rw [if_neg (by omega), if_pos hk]] at h1
  omega
 ·have := op_perm hop (.inl hk)
  omega
theorem bal_prefix (hv : progValid p = true) (hb : isBalanced p = true) (i k j : Nat) (hj : j < p.sems.length) : 0 ≤ sumG (gAt ofBal j) ((p.threads.getD i []).take k) ∧ (k = (p.threads.getD i []).length → sumG (gAt ofBal j) ((p.threads.getD i []).take k) = 0) := by
 by_cases hi : i < p.threads.length
 ·unfold isBalanced at hb
  have h1 := List.all_eq_true.1 (Bool.and_eq_true_iff.1 hb).2 (p.threads.getD i []) (by
   rw [List.getD_eq_getElem?_getD, List.getElem?_eq_getElem hi]
   exact List.getElem_mem hi)
  unfold balThread at h1
  split at h1
  ·next h hr =>
   have hP0 : BalP p.sems.length (List.replicate p.sems.length 0) [] := ⟨by simp, fun j _ => by rw [zeros_at]; exact ⟨rfl, Int.le_refl _⟩⟩
   have hof : ∀ o ∈ p.threads.getD i [], 0 ≤ o.on ∧ (o.kind = 2 ∨ o.kind = 3 → o.on < p.sems.length) ∧ (o.kind = 2 → 0 ≤ o.arg) := fun o ho => op_facts hv ho
   constructor
   ·cases hk : balRun (List.replicate p.sems.length 0) ((p.threads.getD i []).take k) with
    | none => rw [balRun_none hk] at hr; cases hr
    | some hh =>
     have := bal_inv _ _ _ [] (fun o ho => hof o (List.mem_of_mem_take ho)) hP0 hk
     rw [List.nil_append] at this
     rw [← (this.2 j hj).1]
     exact (this.2 j hj).2
   ·rintro rfl
    rw [List.take_length]
    have := bal_inv _ _ _ [] hof hP0 hr
    rw [List.nil_append] at this
    rw [← (this.2 j hj).1]
    have hz := List.all_eq_true.1 h1 (h.getD j 0) (by
     rw [List.getD_eq_getElem?_getD, List.getElem?_eq_getElem (by rw [this.1]; exact hj)]
     exact List.getElem_mem _)
    simpa using hz
  ·cases h1
 ·rw [List.getD_eq_getElem?_getD, List.getElem?_eq_none (by omega)]
  simp [sumG]
theorem doneA_ge {g : OpD → Int} (h0 : ∀ t, 0 ≤ doneT p s g t) : ∀ n t, t < n → doneT p s g t ≤ doneA p s g n
 | 0, _, h => by omega
 | n + 1, t, h => by
  have hn : ∀ m, 0 ≤ doneA p s g m := fun m => by
   induction m with
   | zero => exact Int.le_refl _
   | succ m ih => unfold doneA; have := h0 m; omega
  unfold doneA
  have := h0 n
  have := hn n
  by_cases e : t = n
  ·subst e; omega
  ·have := doneA_ge h0 n t (by omega); omega
theorem run_balanced (hv : progValid p = true) (hw : walkD p ch 101 (startOf p) [] = some (s, tr)) (hb : isBalanced p = true) (hs : onlySems p = true) : s.fault = 0 ∧ (Over s → ∀ j, j < p.sems.length → (s.sems.getD j noSem).free = (s.sems.getD j noSem).limit) := by
 have hr := run_end hv hw
 have I := run_inv (I := fun s => s.fault = 0 ∧ ∀ j, j < p.sems.length → (s.sems.getD j noSem).free + done p s (gAt ofBal j) = (s.sems.getD j noSem).limit) hv hw ⟨rfl, fun j hj => by
  rw [done_start]
  show ((p.sems.map fun n => (⟨n, n, []⟩ : SemD)).getD j noSem).free + 0 = ((p.sems.map fun n => (⟨n, n, []⟩ : SemD)).getD j noSem).limit
  rw [map_get _ _ 0 _ hj]
  simp⟩ (fun s t hr ht I => by
  refine ⟨?_, fun j hj => lawSem hr.fits ht (by rw [hr.fits.nse]; exact hj) (I.2 j hj)⟩
  rcases only_kind hs (ht.at hr.fits) with k | k | k
  ·unfold stepD
   rw [if_pos k]
   exact I.1
  ·rw [stepD_2 k]
   unfold doSem either
   split
   ·exact I.1
   ·exact I.1
  ·obtain ⟨i, e, hi, ⟨hlt, -⟩ | ⟨y, P, -, -, -, e2, -⟩⟩ := view3 hr.fits ht k
   ·exfalso
    have hi' : i < p.sems.length := by rw [← hr.fits.nse]; exact hi
    have h1 := I.2 i hi'
    have h0 : ∀ u, 0 ≤ doneT p s (gAt ofBal i) u := fun u => (bal_prefix hv hb u _ i hi').1
    have hat := ht.at hr.fits
    have h2 := doneA_ge h0 p.threads.length t.toNat (by have := hat.rg; omega)
    have hk : (s.places.getD t.toNat 0).toNat < (p.threads.getD t.toNat []).length := by have := hat.lt; have := hat.ge; unfold opsOf at *; omega
    have h3 := (bal_prefix hv hb t.toNat ((s.places.getD t.toNat 0).toNat + 1) i hi').1
    rw [← take_snoc _ noOp hk, sumG_app] at h3
    have h4 : sumG (gAt ofBal i) [(p.threads.getD t.toNat []).getD (s.places.getD t.toNat 0).toNat noOp] = -(opAt p s t).arg := by
     show gAt ofBal i (opAt p s t) + 0 = _
     rw [gAt_eq e, show ofBal (opAt p s t) = -(opAt p s t).arg by unfold ofBal; rw [if_neg (by omega), if_pos k]]
     omega
    rw [h4] at h3
    unfold done at h1
    unfold doneT at h2
    omega
   ·rw [e2, goAll_fault]
    exact I.1)
 refine ⟨I.1, fun ho j hj => ?_⟩
 have h1 := I.2 j hj
 have h2 : done p s (gAt ofBal j) = 0 := by
  have h3 : ∀ n, doneA p s (gAt ofBal j) n = 0 := fun n => by
   induction n with
   | zero => rfl
   | succ n ih =>
    unfold doneA
    rw [ih]
    by_cases hn : n < p.threads.length
    ·have hth := hr.fits.th n hn
     have h3 := ho.2 n (by rw [hr.fits.nst]; exact hn)
     unfold thOk at hth
     rw [nat_toNat, opsOf_nat, h3] at hth
     have h4 : s.places.getD n 0 = (p.threads.getD n []).length := by
      rcases hth.2.2 with h5 | ⟨-, h5 | h5 | h5⟩
      ·exact h5.1
      ·exact absurd h5.1 (by decide)
      ·exact absurd h5.1 (by decide)
      ·exact absurd h5.1 (by decide)
     unfold doneT
     rw [(bal_prefix hv hb n _ j hj).2 (by rw [h4]; rfl)]
     rfl
    ·unfold doneT
     rw [List.getD_eq_getElem?_getD (l := p.threads), List.getElem?_eq_none (by omega)]
     simp [sumG]
  exact h3 _
 omega
theorem l10Prog_any (R : Nat) (a : Option Addr) (n c : Nat) (bs : List Int) (pos : Int) (w : World) (h : Rdr w R a n c bs pos) (hp : pos ≤ 1099511600000) :
  Calls Try.prog 84 #[.pointer (some ⟨R, 0, none⟩)] w fun e w' => ∃ (v : PV) (vs : List Value) (p : Pg) (pos' : Int), e = .returned (.agg #[.slice v.s v.ns v.cs, .slice v.g v.ng v.cg, .slice v.b v.nb v.cb, .slice v.r v.nr v.cr, .slice v.t v.nt v.ct]) ∧ OwnP w' v vs p.cells ∧ (∀ q ∈ fpP v vs, w.heap.size ≤ q) ∧ Few p 9 ∧ Rdr w' R a n c bs pos' ∧ pos' ≤ pos + 100 ∧ w.grownBy w' (some R) := by
 have hRw := h.lt
 have bR : Below w.heap.size w (w.alloc (.cells #[.slice none 0 0, .slice none 0 0, .slice none 0 0, .slice none 0 0, .slice none 0 0] 26)) := xA1
 have kR : Blk (w.alloc (.cells #[.slice none 0 0, .slice none 0 0, .slice none 0 0, .slice none 0 0, .slice none 0 0] 26)) w.heap.size #[.slice none 0 0, .slice none 0 0, .slice none 0 0, .slice none 0 0, .slice none 0 0] 26 := Blk.new _ _ _
 have h0 := h.below bR
 have G0 := grown_of_below bR (some R)
 have sR : (w.alloc (.cells #[.slice none 0 0, .slice none 0 0, .slice none 0 0, .slice none 0 0, .slice none 0 0] 26)).heap.size = w.heap.size + 1 := by simp
 clear bR h
 go_enter Try.func84, Try.ntmps84
 go_wp2_with fail
 refine (num_new R a n c bs pos 2 [1, 2] _ h0 (by omega) rfl (by omega) (by omega) _ (by simp) _ rfl).mono ?_
 rintro e w1 ⟨A0, rfl, hA0, h1, g1, s1⟩
 rw [sR] at s1
 have kR1 := kR.grown g1 (by simp; omega)
 have HG1 := xH1 (grown_trans G0 g1)
 clear kR g1 G0 h0 hA0 sR
 go_wp2_with fail
 refine (num_new R a n c bs (pos + 1) 2 [1, 3] w1 h1 (by omega) rfl (by omega) (by omega) _ (by simp) _ rfl).mono ?_
 rintro e w3 ⟨A1, rfl, hA1, h3, g3, s3⟩
 have kR3 := kR1.grown g3 (by simp; omega)
 have HG3 := xH1 (grown_trans HG1.out g3)
 have b4 : Below w3.heap.size w3 (w3.alloc (.cells #[.int .i64 A0, .int .i64 1, .int .i64 A1] 3)) := xA1
 have o4 := owns_of_blk (B := w1.heap.size) (Blk.new w3 #[.int .i64 A0, .int .i64 1, .int .i64 A1] 3) (by omega) (sz := 1) (m := 3) rfl (by decide)
 obtain ⟨W4, hW4⟩ : ∃ W4, W4 = w3.alloc (.cells #[.int .i64 A0, .int .i64 1, .int .i64 A1] 3) := ⟨_, rfl⟩
 have s4 : W4.heap.size = w3.heap.size + 1 := by rw [hW4]; simp
 rw [← hW4] at b4 o4
 obtain ⟨W5, hW5⟩ : ∃ W5, W5 = W4.alloc (.cells #[.slice (some ⟨w3.heap.size, 0, none⟩) 3 3, .slice none 0 0, .slice none 0 0, .slice none 0 0, .slice none 0 0] 26) := ⟨_, rfl⟩
 have b5 : Below W4.heap.size W4 W5 := by rw [hW5]; exact xA1
 have kB : Blk W5 (w3.heap.size + 1) #[.slice (some ⟨w3.heap.size, 0, none⟩) 3 3, .slice none 0 0, .slice none 0 0, .slice none 0 0, .slice none 0 0] 26 := by rw [hW5, ← s4]; exact Blk.new _ _ _
 have s5 : W5.heap.size = w3.heap.size + 2 := by rw [hW5]; simp; omega
 have e0 : ∀ W : World, W.ownsRow w1.heap.size 3 1 (.slice none 0 0) 0 (ints []) := fun W => ⟨by simp [ints], .inl ⟨rfl, rfl⟩⟩
 have HC : Hid (CopyAt W5 w1.heap.size (w3.heap.size + 1) ⟨some ⟨w3.heap.size, 0, none⟩, 3, 3, none, 0, 0, none, 0, 0, none, 0, 0, none, 0, 0⟩ [] ⟨[A0, 1, A1], [], [], [], []⟩ 0) := xH1 (CopyAt.four kB (owns_below o4 b5) (e0 _) (e0 _) (e0 _))
 have HR5 := xH1 ((kR3.below b4).below b5)
 have HD5 := xH1 ((h3.below b4).below b5)
 have HG5 := xH1 (grown_trans (grown_trans HG3.out (grown_of_below b4 _)) (grown_of_below b5 _))
 clear h1 g3 kR1 kR3 h3 b4 b5 o4 kB e0 hA1
 go_wp2_with fail
 rw [← hW4, ← hW5]
 have s5' : w3.heap.size + 2 ≤ W5.heap.size := by omega
 have s1' : w.heap.size + 1 ≤ w1.heap.size := s1
 clear s4 s5 hW4 hW5
 go_loopw [4] (fun vi wr => ∃ (j : Nat) (v : PV) (vs : List Value) (p : Pg) (pos' : Int), vi = .int .i64 j ∧ j ≤ 2 ∧ p.threads.length = j ∧ pos' ≤ pos + 2 + 4 * p.threads.length ∧ Hid (CopyAt wr w1.heap.size (w3.heap.size + 1) v vs p p.threads.length) ∧ Hid (ShortP p p.threads.length) ∧ Hid (Rdr wr R a n c bs pos') ∧ Hid (Blk wr w.heap.size #[.slice none 0 0, .slice none 0 0, .slice none 0 0, .slice none 0 0, .slice none 0 0] 26) ∧ Hid (w.grownBy wr (some R)) ∧ w3.heap.size + 2 ≤ wr.heap.size) (fun vi _ => 2 - (intOf vi).toNat)
 case atStart => exact ⟨0, _, _, ⟨[A0, 1, A1], [], [], [], []⟩, pos + 1 + 1, rfl, by omega, rfl, by simp; omega, HC, xH1 ⟨by simp, by simp, by simp, by simp, by simp, by simp⟩, HD5, HR5, HG5, s5'⟩
 case round =>
  obtain ⟨wo, rfl⟩ : ∃ x, x = wr := ⟨_, rfl⟩
  obtain ⟨j, v, vs, p, pos', rfl, hj2, hpj, hpos, HC, HS, HD, HR, HG, hS⟩ := hrel
  have HPJ := xH1 hpj
  have hpos2 : pos' ≤ pos + 2 + 4 * j := by rw [← hpj]; exact hpos
  clear hpj hpos
  by_cases hj : j < 2
  ·have bE : Below wo.heap.size wo (wo.alloc (.cells #[] 61)) := xA1
   have hown := owns_empty wo 61 3
   have HDi := xH1 (HD.out.below bE)
   have HWi := xH1 (grown_of_below bE (some R))
   have sE : (wo.alloc (.cells #[] 61)).heap.size = wo.heap.size + 1 := by simp
   have hSi : wo.heap.size ≤ (wo.alloc (.cells #[] 61)).heap.size := by omega
   clear bE sE
   go_wp2_with fail
   refine (pick_some R a n c bs (pos') 3 _ HDi.out (by omega) (by omega)).mono ?_
   rintro e wp1 ⟨X, rfl, hX, hd, g, _⟩
   have hSi' := g.size
   have hSj : wo.heap.size ≤ wp1.heap.size := by omega
   replace hown := owns_grown hown g (fun k e1 e2 => by cases e2; have := owns_row hown _ e1; omega)
   replace HDi := xH1 hd
   replace HWi := xH1 (grown_trans HWi.out g)
   clear hd g hSi hSi'
   have hSi := hSj
   clear hSj
   go_wp2_with fail
   refine (pick_some R a n c bs (pos' + 1) 3 _ HDi.out (by omega) (by omega)).mono ?_
   rintro e wp2 ⟨Y, rfl, hY, hd, g, _⟩
   have hSi' := g.size
   have hSj : wo.heap.size ≤ wp2.heap.size := by omega
   replace hown := owns_grown hown g (fun k e1 e2 => by cases e2; have := owns_row hown _ e1; omega)
   replace HDi := xH1 hd
   replace HWi := xH1 (grown_trans HWi.out g)
   clear hd g hSi hSi'
   have hSi := hSj
   clear hSj
   have ONE : Hid (∀ u ∈ ([.int .i64 2, .int .i64 (X : Int), .int .i64 1] : List Value), u.oneCell' = true) := xH1 (by intro u hu; simp only [List.mem_cons, List.not_mem_nil, or_false] at hu; rcases hu with rfl | rfl | rfl <;> rfl)
   go_wp2_with (at_builtin; refine wpList_append_sl (m := 1) (cm := 1) (news := [.int .i64 2, .int .i64 (X : Int), .int .i64 1]) rfl (.tmp 25) (.tmp 28) 59 rfl Try.underlying59 info_op rfl (by decide) rfl hown rfl rfl rfl ONE.out (by omega) (by decide) hSi ?_; intro a1q c1q wa3 hown2 hgr; have HOW := xH1 hown; clear hown)
   have hrow : ∀ k, rowOf (some ⟨wo.heap.size, 0, none⟩) = some k → wo.heap.size ≤ k := fun k hk => (owns_row HOW.out k hk).1
   have hSi' := hgr.size
   have hSj : wo.heap.size ≤ wa3.heap.size := by omega
   replace HDi := xH1 (HDi.out.gr hgr (fun k hk => by have := hrow k hk; omega))
   replace HWi := xH1 (grown_new HWi.out hgr (fun k hk => hrow k hk))
   have hown : wa3.ownsRow wo.heap.size 61 3 (.slice a1q 1 c1q) 1 (opsV ([⟨2, (X : Int), 1⟩])) := by simpa [opsV, opv] using hown2
   clear ONE hown2 hgr HOW hrow hSi hSi'
   have hSi := hSj
   clear hSj
   go_wp2_with fail
   refine (pick_some R a n c bs (pos' + 1 + 1) 3 _ HDi.out (by omega) (by omega)).mono ?_
   rintro e wp4 ⟨Z, rfl, hZ, hd, g, _⟩
   have hSi' := g.size
   have hSj : wo.heap.size ≤ wp4.heap.size := by omega
   replace hown := owns_grown hown g (fun k e1 e2 => by cases e2; have := owns_row hown _ e1; omega)
   replace HDi := xH1 hd
   replace HWi := xH1 (grown_trans HWi.out g)
   clear hd g hSi hSi'
   have hSi := hSj
   clear hSj
   by_cases hz : 0 < Z
   ·have tz : decide ((0 : Int) < (Z : Int)) = true := decide_eq_true (by omega)
    have ONE : Hid (∀ u ∈ ([.int .i64 2, .int .i64 (Y : Int), .int .i64 1, .int .i64 3, .int .i64 (Y : Int), .int .i64 1] : List Value), u.oneCell' = true) := xH1 (by intro u hu; simp only [List.mem_cons, List.not_mem_nil, or_false] at hu; rcases hu with rfl | rfl | rfl | rfl | rfl | rfl <;> rfl)
    go_wp2_with (at_builtin; refine wpList_append_sl (m := 2) (cm := 2) (news := [.int .i64 2, .int .i64 (Y : Int), .int .i64 1, .int .i64 3, .int .i64 (Y : Int), .int .i64 1]) rfl (.tmp 33) (.tmp 38) 59 rfl Try.underlying59 info_op rfl (by decide) rfl hown rfl rfl rfl ONE.out (by omega) (by decide) hSi ?_; intro a2q c2q wa5 hown2 hgr; have HOW := xH1 hown; clear hown)
    have hrow : ∀ k, rowOf (a1q) = some k → wo.heap.size ≤ k := fun k hk => (owns_row HOW.out k hk).1
    have hSi' := hgr.size
    have hSj : wo.heap.size ≤ wa5.heap.size := by omega
    replace HDi := xH1 (HDi.out.gr hgr (fun k hk => by have := hrow k hk; omega))
    replace HWi := xH1 (grown_new HWi.out hgr (fun k hk => hrow k hk))
    have hown : wa5.ownsRow wo.heap.size 61 3 (.slice a2q 3 c2q) 3 (opsV ([⟨2, (X : Int), 1⟩] ++ [⟨2, (Y : Int), 1⟩, ⟨3, (Y : Int), 1⟩])) := by simpa [opsV, opv] using hown2
    clear ONE hown2 hgr HOW hrow hSi hSi'
    have hSi := hSj
    clear hSj
    go_wp2_with fail
    refine (pick_some R a n c bs (pos' + 1 + 1 + 1) 6 _ HDi.out (by omega) (by omega)).mono ?_
    rintro e wp6 ⟨U, rfl, hU, hd, g, _⟩
    have hSi' := g.size
    have hSj : wo.heap.size ≤ wp6.heap.size := by omega
    replace hown := owns_grown hown g (fun k e1 e2 => by cases e2; have := owns_row hown _ e1; omega)
    replace HDi := xH1 hd
    replace HWi := xH1 (grown_trans HWi.out g)
    clear hd g hSi hSi'
    have hSi := hSj
    clear hSj
    by_cases hu : 0 < U
    ·have tu : decide ((0 : Int) < (U : Int)) = true := decide_eq_true (by omega)
     have ONE : Hid (∀ u ∈ ([.int .i64 3, .int .i64 (X : Int), .int .i64 1] : List Value), u.oneCell' = true) := xH1 (by intro u hu; simp only [List.mem_cons, List.not_mem_nil, or_false] at hu; rcases hu with rfl | rfl | rfl <;> rfl)
     go_upto_region 14 with (at_builtin; refine wpList_append_sl (m := 1) (cm := 1) (news := [.int .i64 3, .int .i64 (X : Int), .int .i64 1]) rfl (.tmp 48) (.tmp 51) 59 rfl Try.underlying59 info_op rfl (by decide) rfl hown rfl rfl rfl ONE.out (by omega) (by decide) hSi ?_; intro a3q c3q wa7 hown2 hgr; have HOW := xH1 hown; clear hown)
     have hrow : ∀ k, rowOf (a2q) = some k → wo.heap.size ≤ k := fun k hk => (owns_row HOW.out k hk).1
     have hSi' := hgr.size
     have hSj : wo.heap.size ≤ wa7.heap.size := by omega
     replace HDi := xH1 (HDi.out.gr hgr (fun k hk => by have := hrow k hk; omega))
     replace HWi := xH1 (grown_new HWi.out hgr (fun k hk => hrow k hk))
     have hown : wa7.ownsRow wo.heap.size 61 3 (.slice a3q 4 c3q) 4 (opsV ([⟨2, (X : Int), 1⟩] ++ [⟨2, (Y : Int), 1⟩, ⟨3, (Y : Int), 1⟩] ++ [⟨3, (X : Int), 1⟩])) := by simpa [opsV, opv] using hown2
     clear ONE hown2 hgr HOW hrow hSi hSi'
     have hSi := hSj
     clear hSj
     obtain ⟨rw_, hrw⟩ : ∃ t : List OpD, t = [⟨2, (X : Int), 1⟩] ++ [⟨2, (Y : Int), 1⟩, ⟨3, (Y : Int), 1⟩] ++ [⟨3, (X : Int), 1⟩] := ⟨_, rfl⟩
     have hrl : rw_.length = 4 := by rw [hrw]; rfl
     rw [← hrw] at hown
     clear hrw
     have HCi := xH1 (HC.out.drawn HWi.out (by omega) (by omega))
     have e4 := HCi.out.blk.cell 4 rfl
     have hot := HCi.out.ot
     have hSi2 : w1.heap.size ≤ wa7.heap.size := by omega
     have HO := xH1 (owns_mono hown (B' := 0) (Nat.zero_le _))
     have HF : Hid (∀ q, rowOf (a3q) = some q → w1.heap.size ≤ q ∧ q ∉ fpV vs) := xH1 (fun q hq => ⟨by have h1 := (owns_row hown q hq).1; omega, fun hm => by have h1 := (owns_row hown q hq).1; have h2 := HC.out.inn.lt q hm; omega⟩)
     have HRi := xH1 (HR.out.grown HWi.out (by simp; omega))
     have HGi := xH1 (grown_trans HG.out HWi.out)
     have hnt : v.nt ≤ 9 := (by have h1 := HC.out.ot.1; have h2 := HC.out.inn.len; have h3 := HPJ.out; simp only [List.length_map, List.take_length] at h2; omega)
     clear hown
     go_wp2_with (at_builtin; refine wpList_append_sl (news := [.slice a3q 4 c3q]) rfl (.tmp 54) (.tmp 56) 24 rfl Try.underlying24 info_ops rfl (by decide) rfl hot rfl rfl rfl (by simp [Value.oneCell']) (by omega) (by decide) hSi2 ?_; intro a6 c6 w8 hown8 hgr8; have hy4 := (HCi.out.blk.grown hgr8 (blk_owns HCi.out.blk hot types_ne.2.2.2.1)).fz 4; have hx4 := (HCi.out.blk.grown hgr8 (blk_owns HCi.out.blk hot types_ne.2.2.2.1)).cell 4 rfl)
     go_roundw
     case rel =>
      have s8 := hgr8.size
      have hrow : ∀ k, rowOf v.t = some k → w1.heap.size ≤ k := fun k hk => (owns_row hot k hk).1
      have gs := grown_set w8 (w3.heap.size + 1) 4 (.slice a6 (v.nt + 1) c6)
      have hpj := HPJ.out
      refine ⟨j + 1, v.thr a6 (v.nt + 1) c6, vs ++ [.slice a3q 4 c3q], { p with threads := p.threads ++ [rw_] }, pos' + 1 + 1 + 1 + 1, by go_num, by omega, by simp; omega, by simp; omega, xH1 (HCi.out.more HO.out HF.out hown8 hgr8), xH1 ⟨HS.out.s, HS.out.g, HS.out.b, HS.out.r, by simp, fun t ht => ?_⟩, xH1 ((HDi.out.gr hgr8 (fun q hq => by have := hrow q hq; omega)).gr gs (fun i e => by cases e; omega)), xH1 ((HRi.out.grown hgr8 (fun e => by have := hrow _ e; omega)).other _ _ (by simp; omega)), xH1 (grown_new (grown_new HGi.out hgr8 (fun q hq => by have := hrow q hq; omega)) gs (fun i e => by cases e; omega)), by simp; omega⟩
      rcases xP1 ht with ht | ht
      ·exact HS.out.i t ht
      ·obtain rfl := xS1 ht; omega
     case measure => simp [intOf]; omega
    ·have tu : decide ((0 : Int) < (U : Int)) = false := decide_eq_false (by omega)
     obtain ⟨rw_, hrw⟩ : ∃ t : List OpD, t = [⟨2, (X : Int), 1⟩] ++ [⟨2, (Y : Int), 1⟩, ⟨3, (Y : Int), 1⟩] := ⟨_, rfl⟩
     have hrl : rw_.length = 3 := by rw [hrw]; rfl
     rw [← hrw] at hown
     clear hrw
     have HCi := xH1 (HC.out.drawn HWi.out (by omega) (by omega))
     have e4 := HCi.out.blk.cell 4 rfl
     have hot := HCi.out.ot
     have hSi2 : w1.heap.size ≤ wp6.heap.size := by omega
     have HO := xH1 (owns_mono hown (B' := 0) (Nat.zero_le _))
     have HF : Hid (∀ q, rowOf (a2q) = some q → w1.heap.size ≤ q ∧ q ∉ fpV vs) := xH1 (fun q hq => ⟨by have h1 := (owns_row hown q hq).1; omega, fun hm => by have h1 := (owns_row hown q hq).1; have h2 := HC.out.inn.lt q hm; omega⟩)
     have HRi := xH1 (HR.out.grown HWi.out (by simp; omega))
     have HGi := xH1 (grown_trans HG.out HWi.out)
     have hnt : v.nt ≤ 9 := (by have h1 := HC.out.ot.1; have h2 := HC.out.inn.len; have h3 := HPJ.out; simp only [List.length_map, List.take_length] at h2; omega)
     clear hown
     go_wp2_with (at_builtin; refine wpList_append_sl (news := [.slice a2q 3 c2q]) rfl (.tmp 54) (.tmp 56) 24 rfl Try.underlying24 info_ops rfl (by decide) rfl hot rfl rfl rfl (by simp [Value.oneCell']) (by omega) (by decide) hSi2 ?_; intro a6 c6 w8 hown8 hgr8; have hy4 := (HCi.out.blk.grown hgr8 (blk_owns HCi.out.blk hot types_ne.2.2.2.1)).fz 4; have hx4 := (HCi.out.blk.grown hgr8 (blk_owns HCi.out.blk hot types_ne.2.2.2.1)).cell 4 rfl)
     go_roundw
     case rel =>
      have s8 := hgr8.size
      have hrow : ∀ k, rowOf v.t = some k → w1.heap.size ≤ k := fun k hk => (owns_row hot k hk).1
      have gs := grown_set w8 (w3.heap.size + 1) 4 (.slice a6 (v.nt + 1) c6)
      have hpj := HPJ.out
      refine ⟨j + 1, v.thr a6 (v.nt + 1) c6, vs ++ [.slice a2q 3 c2q], { p with threads := p.threads ++ [rw_] }, pos' + 1 + 1 + 1 + 1, by go_num, by omega, by simp; omega, by simp; omega, xH1 (HCi.out.more HO.out HF.out hown8 hgr8), xH1 ⟨HS.out.s, HS.out.g, HS.out.b, HS.out.r, by simp, fun t ht => ?_⟩, xH1 ((HDi.out.gr hgr8 (fun q hq => by have := hrow q hq; omega)).gr gs (fun i e => by cases e; omega)), xH1 ((HRi.out.grown hgr8 (fun e => by have := hrow _ e; omega)).other _ _ (by simp; omega)), xH1 (grown_new (grown_new HGi.out hgr8 (fun q hq => by have := hrow q hq; omega)) gs (fun i e => by cases e; omega)), by simp; omega⟩
      rcases xP1 ht with ht | ht
      ·exact HS.out.i t ht
      ·obtain rfl := xS1 ht; omega
     case measure => simp [intOf]; omega
   ·have tz : decide ((0 : Int) < (Z : Int)) = false := decide_eq_false (by omega)
    have ONE : Hid (∀ u ∈ ([.int .i64 1, .int .i64 0, .int .i64 (j : Int)] : List Value), u.oneCell' = true) := xH1 (by intro u hu; simp only [List.mem_cons, List.not_mem_nil, or_false] at hu; rcases hu with rfl | rfl | rfl <;> rfl)
    go_wp2_with (at_builtin; refine wpList_append_sl (m := 1) (cm := 1) (news := [.int .i64 1, .int .i64 0, .int .i64 (j : Int)]) rfl (.tmp 40) (.tmp 43) 59 rfl Try.underlying59 info_op rfl (by decide) rfl hown rfl rfl rfl ONE.out (by omega) (by decide) hSi ?_; intro a4q c4q wa8 hown2 hgr; have HOW := xH1 hown; clear hown)
    have hrow : ∀ k, rowOf (a1q) = some k → wo.heap.size ≤ k := fun k hk => (owns_row HOW.out k hk).1
    have hSi' := hgr.size
    have hSj : wo.heap.size ≤ wa8.heap.size := by omega
    replace HDi := xH1 (HDi.out.gr hgr (fun k hk => by have := hrow k hk; omega))
    replace HWi := xH1 (grown_new HWi.out hgr (fun k hk => hrow k hk))
    have hown : wa8.ownsRow wo.heap.size 61 3 (.slice a4q 2 c4q) 2 (opsV ([⟨2, (X : Int), 1⟩] ++ [⟨1, 0, (j : Int)⟩])) := by simpa [opsV, opv] using hown2
    clear ONE hown2 hgr HOW hrow hSi hSi'
    have hSi := hSj
    clear hSj
    go_wp2_with fail
    refine (pick_some R a n c bs (pos' + 1 + 1 + 1) 6 _ HDi.out (by omega) (by omega)).mono ?_
    rintro e wp9 ⟨U, rfl, hU, hd, g, _⟩
    have hSi' := g.size
    have hSj : wo.heap.size ≤ wp9.heap.size := by omega
    replace hown := owns_grown hown g (fun k e1 e2 => by cases e2; have := owns_row hown _ e1; omega)
    replace HDi := xH1 hd
    replace HWi := xH1 (grown_trans HWi.out g)
    clear hd g hSi hSi'
    have hSi := hSj
    clear hSj
    by_cases hu : 0 < U
    ·have tu : decide ((0 : Int) < (U : Int)) = true := decide_eq_true (by omega)
     have ONE : Hid (∀ u ∈ ([.int .i64 3, .int .i64 (X : Int), .int .i64 1] : List Value), u.oneCell' = true) := xH1 (by intro u hu; simp only [List.mem_cons, List.not_mem_nil, or_false] at hu; rcases hu with rfl | rfl | rfl <;> rfl)
     go_upto_region 14 with (at_builtin; refine wpList_append_sl (m := 1) (cm := 1) (news := [.int .i64 3, .int .i64 (X : Int), .int .i64 1]) rfl (.tmp 48) (.tmp 51) 59 rfl Try.underlying59 info_op rfl (by decide) rfl hown rfl rfl rfl ONE.out (by omega) (by decide) hSi ?_; intro a5q c5q wa10 hown2 hgr; have HOW := xH1 hown; clear hown)
     have hrow : ∀ k, rowOf (a4q) = some k → wo.heap.size ≤ k := fun k hk => (owns_row HOW.out k hk).1
     have hSi' := hgr.size
     have hSj : wo.heap.size ≤ wa10.heap.size := by omega
     replace HDi := xH1 (HDi.out.gr hgr (fun k hk => by have := hrow k hk; omega))
     replace HWi := xH1 (grown_new HWi.out hgr (fun k hk => hrow k hk))
     have hown : wa10.ownsRow wo.heap.size 61 3 (.slice a5q 3 c5q) 3 (opsV ([⟨2, (X : Int), 1⟩] ++ [⟨1, 0, (j : Int)⟩] ++ [⟨3, (X : Int), 1⟩])) := by simpa [opsV, opv] using hown2
     clear ONE hown2 hgr HOW hrow hSi hSi'
     have hSi := hSj
     clear hSj
     obtain ⟨rw_, hrw⟩ : ∃ t : List OpD, t = [⟨2, (X : Int), 1⟩] ++ [⟨1, 0, (j : Int)⟩] ++ [⟨3, (X : Int), 1⟩] := ⟨_, rfl⟩
     have hrl : rw_.length = 3 := by rw [hrw]; rfl
     rw [← hrw] at hown
     clear hrw
     have HCi := xH1 (HC.out.drawn HWi.out (by omega) (by omega))
     have e4 := HCi.out.blk.cell 4 rfl
     have hot := HCi.out.ot
     have hSi2 : w1.heap.size ≤ wa10.heap.size := by omega
     have HO := xH1 (owns_mono hown (B' := 0) (Nat.zero_le _))
     have HF : Hid (∀ q, rowOf (a5q) = some q → w1.heap.size ≤ q ∧ q ∉ fpV vs) := xH1 (fun q hq => ⟨by have h1 := (owns_row hown q hq).1; omega, fun hm => by have h1 := (owns_row hown q hq).1; have h2 := HC.out.inn.lt q hm; omega⟩)
     have HRi := xH1 (HR.out.grown HWi.out (by simp; omega))
     have HGi := xH1 (grown_trans HG.out HWi.out)
     have hnt : v.nt ≤ 9 := (by have h1 := HC.out.ot.1; have h2 := HC.out.inn.len; have h3 := HPJ.out; simp only [List.length_map, List.take_length] at h2; omega)
     clear hown
     go_wp2_with (at_builtin; refine wpList_append_sl (news := [.slice a5q 3 c5q]) rfl (.tmp 54) (.tmp 56) 24 rfl Try.underlying24 info_ops rfl (by decide) rfl hot rfl rfl rfl (by simp [Value.oneCell']) (by omega) (by decide) hSi2 ?_; intro a6 c6 w8 hown8 hgr8; have hy4 := (HCi.out.blk.grown hgr8 (blk_owns HCi.out.blk hot types_ne.2.2.2.1)).fz 4; have hx4 := (HCi.out.blk.grown hgr8 (blk_owns HCi.out.blk hot types_ne.2.2.2.1)).cell 4 rfl)
     go_roundw
     case rel =>
      have s8 := hgr8.size
      have hrow : ∀ k, rowOf v.t = some k → w1.heap.size ≤ k := fun k hk => (owns_row hot k hk).1
      have gs := grown_set w8 (w3.heap.size + 1) 4 (.slice a6 (v.nt + 1) c6)
      have hpj := HPJ.out
      refine ⟨j + 1, v.thr a6 (v.nt + 1) c6, vs ++ [.slice a5q 3 c5q], { p with threads := p.threads ++ [rw_] }, pos' + 1 + 1 + 1 + 1, by go_num, by omega, by simp; omega, by simp; omega, xH1 (HCi.out.more HO.out HF.out hown8 hgr8), xH1 ⟨HS.out.s, HS.out.g, HS.out.b, HS.out.r, by simp, fun t ht => ?_⟩, xH1 ((HDi.out.gr hgr8 (fun q hq => by have := hrow q hq; omega)).gr gs (fun i e => by cases e; omega)), xH1 ((HRi.out.grown hgr8 (fun e => by have := hrow _ e; omega)).other _ _ (by simp; omega)), xH1 (grown_new (grown_new HGi.out hgr8 (fun q hq => by have := hrow q hq; omega)) gs (fun i e => by cases e; omega)), by simp; omega⟩
      rcases xP1 ht with ht | ht
      ·exact HS.out.i t ht
      ·obtain rfl := xS1 ht; omega
     case measure => simp [intOf]; omega
    ·have tu : decide ((0 : Int) < (U : Int)) = false := decide_eq_false (by omega)
     obtain ⟨rw_, hrw⟩ : ∃ t : List OpD, t = [⟨2, (X : Int), 1⟩] ++ [⟨1, 0, (j : Int)⟩] := ⟨_, rfl⟩
     have hrl : rw_.length = 2 := by rw [hrw]; rfl
     rw [← hrw] at hown
     clear hrw
     have HCi := xH1 (HC.out.drawn HWi.out (by omega) (by omega))
     have e4 := HCi.out.blk.cell 4 rfl
     have hot := HCi.out.ot
     have hSi2 : w1.heap.size ≤ wp9.heap.size := by omega
     have HO := xH1 (owns_mono hown (B' := 0) (Nat.zero_le _))
     have HF : Hid (∀ q, rowOf (a4q) = some q → w1.heap.size ≤ q ∧ q ∉ fpV vs) := xH1 (fun q hq => ⟨by have h1 := (owns_row hown q hq).1; omega, fun hm => by have h1 := (owns_row hown q hq).1; have h2 := HC.out.inn.lt q hm; omega⟩)
     have HRi := xH1 (HR.out.grown HWi.out (by simp; omega))
     have HGi := xH1 (grown_trans HG.out HWi.out)
     have hnt : v.nt ≤ 9 := (by have h1 := HC.out.ot.1; have h2 := HC.out.inn.len; have h3 := HPJ.out; simp only [List.length_map, List.take_length] at h2; omega)
     clear hown
     go_wp2_with (at_builtin; refine wpList_append_sl (news := [.slice a4q 2 c4q]) rfl (.tmp 54) (.tmp 56) 24 rfl Try.underlying24 info_ops rfl (by decide) rfl hot rfl rfl rfl (by simp [Value.oneCell']) (by omega) (by decide) hSi2 ?_; intro a6 c6 w8 hown8 hgr8; have hy4 := (HCi.out.blk.grown hgr8 (blk_owns HCi.out.blk hot types_ne.2.2.2.1)).fz 4; have hx4 := (HCi.out.blk.grown hgr8 (blk_owns HCi.out.blk hot types_ne.2.2.2.1)).cell 4 rfl)
     go_roundw
     case rel =>
      have s8 := hgr8.size
      have hrow : ∀ k, rowOf v.t = some k → w1.heap.size ≤ k := fun k hk => (owns_row hot k hk).1
      have gs := grown_set w8 (w3.heap.size + 1) 4 (.slice a6 (v.nt + 1) c6)
      have hpj := HPJ.out
      refine ⟨j + 1, v.thr a6 (v.nt + 1) c6, vs ++ [.slice a4q 2 c4q], { p with threads := p.threads ++ [rw_] }, pos' + 1 + 1 + 1 + 1, by go_num, by omega, by simp; omega, by simp; omega, xH1 (HCi.out.more HO.out HF.out hown8 hgr8), xH1 ⟨HS.out.s, HS.out.g, HS.out.b, HS.out.r, by simp, fun t ht => ?_⟩, xH1 ((HDi.out.gr hgr8 (fun q hq => by have := hrow q hq; omega)).gr gs (fun i e => by cases e; omega)), xH1 ((HRi.out.grown hgr8 (fun e => by have := hrow _ e; omega)).other _ _ (by simp; omega)), xH1 (grown_new (grown_new HGi.out hgr8 (fun q hq => by have := hrow q hq; omega)) gs (fun i e => by cases e; omega)), by simp; omega⟩
      rcases xP1 ht with ht | ht
      ·exact HS.out.i t ht
      ·obtain rfl := xS1 ht; omega
     case measure => simp [intOf]; omega
  ·obtain rfl : j = 2 := by omega
   have e0 := HC.out.blk.cell 0 rfl
   have e1 := HC.out.blk.cell 1 rfl
   have e2 := HC.out.blk.cell 2 rfl
   have e3 := HC.out.blk.cell 3 rfl
   have e4 := HC.out.blk.cell 4 rfl
   have y0 := HR.out.cell 0 rfl
   have x0 := HR.out.fz 0
   have y1 := HR.out.cell 1 rfl
   have x1 := HR.out.fz 1
   have y2 := HR.out.cell 2 rfl
   have x2 := HR.out.fz 2
   have y3 := HR.out.cell 3 rfl
   have x3 := HR.out.fz 3
   have y4 := HR.out.cell 4 rfl
   have x4 := HR.out.fz 4
   have hz5 : wo.grownBy ((((((wo).setCell ⟨w.heap.size, 0, none⟩ (.slice v.s v.ns v.cs)).setCell ⟨w.heap.size, 1, none⟩ (.slice v.g v.ng v.cg)).setCell ⟨w.heap.size, 2, none⟩ (.slice v.b v.nb v.cb)).setCell ⟨w.heap.size, 3, none⟩ (.slice v.r v.nr v.cr)).setCell ⟨w.heap.size, 4, none⟩ (.slice v.t v.nt v.ct)) (some w.heap.size) := grown_trans (grown_trans (grown_trans (grown_trans (grown_set _ _ _ _) (grown_set _ _ _ _)) (grown_set _ _ _ _)) (grown_set _ _ _ _)) (grown_set _ _ _ _)
   have HZ5 := xH1 hz5
   clear hz5
   go_wp2
   refine bodyPost_ret (v := .agg #[.slice v.s v.ns v.cs, .slice v.g v.ng v.cg, .slice v.b v.nb v.cb, .slice v.r v.nr v.cr, .slice v.t v.nt v.ct]) (by simp [results, Try.results84, go_sem, y0, y1, y2, y3, y4]) rfl ⟨v, vs, p, pos', rfl, (HC.out.own rfl).keep (fun k hk hl => HZ5.out.block k hl (fun e => by cases e; have := HC.out.fresh _ hk; omega)), fun q hq => by have := HC.out.fresh q hq; omega, HS.out.few (by have := HPJ.out; omega), HD.out.gr HZ5.out (fun i e => by cases e; omega), by omega, grown_new HG.out HZ5.out (fun i e => by cases e; omega)⟩
theorem l10Draw_any (R : Nat) (a : Option Addr) (n c : Nat) (bs : List Int) (pos : Int) (w : World) (h : Rdr w R a n c bs pos) (hp : pos ≤ 1099511500000) :
  Calls Try.prog 51 #[.pointer (some ⟨R, 0, none⟩)] w fun e w' => ∃ (v : PV) (vs : List Value) (p : Pg) (pos' : Int), e = .returned (.agg #[.slice v.s v.ns v.cs, .slice v.g v.ng v.cg, .slice v.b v.nb v.cb, .slice v.r v.nr v.cr, .slice v.t v.nt v.ct]) ∧ OwnP w' v vs p.cells ∧ (∀ q ∈ fpP v vs, w.heap.size ≤ q) ∧ Few p 10 ∧ Rdr w' R a n c bs pos' ∧ pos' ≤ pos + 200 ∧ w.grownBy w' (some R) := by
 have hRw := h.lt
 have b0 : Below w.heap.size w (w.alloc (.cells #[.slice none 0 0, .slice none 0 0, .slice none 0 0, .slice none 0 0, .slice none 0 0] 26)) := xA1
 have k0 : Blk (w.alloc (.cells #[.slice none 0 0, .slice none 0 0, .slice none 0 0, .slice none 0 0, .slice none 0 0] 26)) w.heap.size #[.slice none 0 0, .slice none 0 0, .slice none 0 0, .slice none 0 0, .slice none 0 0] 26 := Blk.new _ _ _
 have s0 : (w.alloc (.cells #[.slice none 0 0, .slice none 0 0, .slice none 0 0, .slice none 0 0, .slice none 0 0] 26)).heap.size = w.heap.size + 1 := by simp
 have h0 := h.below b0
 have HG0 := xH1 (grown_of_below b0 (some R))
 clear b0 h
 go_enter Try.func51, Try.ntmps51
 go_wp2_with fail
 refine (pick_some R a n c bs pos 3 _ h0 (by omega) (by omega)).mono ?_
 rintro e w1 ⟨x, rfl, hx, h1, g1, _⟩
 have s1 := g1.size
 rw [s0] at s1
 have k1 := k0.grown g1 (by simp; omega)
 have HG1 := xH1 (grown_trans HG0.out g1)
 clear h0 k0 g1 s0 HG0
 by_cases hx0 : 0 < x
 ·have t0 : decide ((0 : Int) < (x : Int)) = true := decide_eq_true (by omega)
  go_wp2_with fail
  refine (l10Prog_any R a n c bs (pos + 1) w1 h1 (by omega)).mono ?_
  rintro e w2 ⟨v, vs, p, pos', rfl, o2, f2, z2, h2, hp2, g2⟩
  have s2 := g2.size
  have k2 := k1.grown g2 (by simp; omega)
  have HG2 := xH1 (grown_trans HG1.out g2)
  have HO := xH1 o2
  have HF := xH1 f2
  have HD := xH1 h2
  have HZ := xH1 z2
  clear h1 k1 g2 o2 f2 h2 z2
  have y0 := k2.cell 0 rfl
  have x0 := k2.fz 0
  have y1 := k2.cell 1 rfl
  have x1 := k2.fz 1
  have y2 := k2.cell 2 rfl
  have x2 := k2.fz 2
  have y3 := k2.cell 3 rfl
  have x3 := k2.fz 3
  have y4 := k2.cell 4 rfl
  have x4 := k2.fz 4
  have hz5 : w2.grownBy ((((((w2).setCell ⟨w.heap.size, 0, none⟩ (.slice v.s v.ns v.cs)).setCell ⟨w.heap.size, 1, none⟩ (.slice v.g v.ng v.cg)).setCell ⟨w.heap.size, 2, none⟩ (.slice v.b v.nb v.cb)).setCell ⟨w.heap.size, 3, none⟩ (.slice v.r v.nr v.cr)).setCell ⟨w.heap.size, 4, none⟩ (.slice v.t v.nt v.ct)) (some (w.heap.size)) := grown_trans (grown_trans (grown_trans (grown_trans (grown_set _ _ _ _) (grown_set _ _ _ _)) (grown_set _ _ _ _)) (grown_set _ _ _ _)) (grown_set _ _ _ _)
  have HZ5 := xH1 hz5
  clear hz5
  go_wp2
  refine bodyPost_ret (v := .agg #[.slice v.s v.ns v.cs, .slice v.g v.ng v.cg, .slice v.b v.nb v.cb, .slice v.r v.nr v.cr, .slice v.t v.nt v.ct]) (by simp [results, Try.results51, go_sem, y0, y1, y2, y3, y4]) rfl ⟨v, vs, p, pos', rfl, HO.out.keep (fun k hk hl => HZ5.out.block k hl (fun e => by cases e; have := HF.out _ hk; omega)), fun q hq => by have := HF.out q hq; omega, HZ.out.mono (by omega), HD.out.gr HZ5.out (fun i e => by cases e; omega), by omega, grown_new HG2.out HZ5.out (fun i e => by cases e; omega)⟩
 ·have t0 : decide ((0 : Int) < (x : Int)) = false := decide_eq_false (by omega)
  go_wp2_with fail
  refine (l6Draw_any R a n c bs (pos + 1) w1 h1 (by omega)).mono ?_
  rintro e w2 ⟨v, vs, p, pos', rfl, o2, f2, z2, h2, hp2, g2⟩
  have s2 := g2.size
  have k2 := k1.grown g2 (by simp; omega)
  have HG2 := xH1 (grown_trans HG1.out g2)
  clear h1 k1 g2
  go_wp2_with fail
  refine (l6Wrong_any R a n c bs pos' v p 9 w2 h2 (by omega) o2.rd z2 (by omega)).mono ?_
  rintro e w3 ⟨v', vs', p', pos3, rfl, o3, f3, z3, h3, hp3, g3⟩
  have s3 := g3.size
  have k3 := k2.grown g3 (by simp; omega)
  have HG3 := xH1 (grown_trans HG2.out g3)
  have HO := xH1 o3
  have HF := xH1 f3
  have HD := xH1 h3
  have HZ := xH1 z3
  clear k2 g3 o3 f3 h3 z3 o2 f2 h2 z2
  have y0 := k3.cell 0 rfl
  have x0 := k3.fz 0
  have y1 := k3.cell 1 rfl
  have x1 := k3.fz 1
  have y2 := k3.cell 2 rfl
  have x2 := k3.fz 2
  have y3 := k3.cell 3 rfl
  have x3 := k3.fz 3
  have y4 := k3.cell 4 rfl
  have x4 := k3.fz 4
  have hz5 : w3.grownBy ((((((w3).setCell ⟨w.heap.size, 0, none⟩ (.slice v'.s v'.ns v'.cs)).setCell ⟨w.heap.size, 1, none⟩ (.slice v'.g v'.ng v'.cg)).setCell ⟨w.heap.size, 2, none⟩ (.slice v'.b v'.nb v'.cb)).setCell ⟨w.heap.size, 3, none⟩ (.slice v'.r v'.nr v'.cr)).setCell ⟨w.heap.size, 4, none⟩ (.slice v'.t v'.nt v'.ct)) (some (w.heap.size)) := grown_trans (grown_trans (grown_trans (grown_trans (grown_set _ _ _ _) (grown_set _ _ _ _)) (grown_set _ _ _ _)) (grown_set _ _ _ _)) (grown_set _ _ _ _)
  have HZ5 := xH1 hz5
  clear hz5
  go_wp2
  refine bodyPost_ret (v := .agg #[.slice v'.s v'.ns v'.cs, .slice v'.g v'.ng v'.cg, .slice v'.b v'.nb v'.cb, .slice v'.r v'.nr v'.cr, .slice v'.t v'.nt v'.ct]) (by simp [results, Try.results51, go_sem, y0, y1, y2, y3, y4]) rfl ⟨v', vs', p', pos3, rfl, HO.out.keep (fun k hk hl => HZ5.out.block k hl (fun e => by cases e; have := HF.out _ hk; omega)), fun q hq => by have := HF.out q hq; omega, HZ.out, HD.out.gr HZ5.out (fun i e => by cases e; omega), by omega, grown_new HG3.out HZ5.out (fun i e => by cases e; omega)⟩
theorem drawIsBalanced_any (a : Option Addr) (n c : Nat) (bs : List Int) (w : World) (hC : Code13 w a n c bs) :
  Calls Try.prog 33 #[.slice a n c] w fun e w' => ∃ (v : PV) (vs : List Value) (p : Pg), e = .returned (.agg #[.slice v.s v.ns v.cs, .slice v.g v.ng v.cg, .slice v.b v.nb v.cb, .slice v.r v.nr v.cr, .slice v.t v.nt v.ct]) ∧ Own w' w.heap.size v vs p 10 ∧ Below w.heap.size w w' := by
 have b0 : Below w.heap.size w (w.alloc (.cells #[.slice none 0 0, .slice none 0 0, .slice none 0 0, .slice none 0 0, .slice none 0 0] 26)) := xA1
 have k0 : Blk (w.alloc (.cells #[.slice none 0 0, .slice none 0 0, .slice none 0 0, .slice none 0 0, .slice none 0 0] 26)) w.heap.size #[.slice none 0 0, .slice none 0 0, .slice none 0 0, .slice none 0 0, .slice none 0 0] 26 := Blk.new _ _ _
 have s0 : (w.alloc (.cells #[.slice none 0 0, .slice none 0 0, .slice none 0 0, .slice none 0 0, .slice none 0 0] 26)).heap.size = w.heap.size + 1 := by simp
 have hC0 := hC.below b0
 go_enter Try.func33, Try.ntmps33
 go_wp2_with fail
 refine hC0.open.mono ?_
 rintro e w1 ⟨rfl, n', bs', r1, b1, s1⟩
 have k1 := k0.below b1
 have HB1 := xH1 (b0.trans (b1.mono b0.size))
 rw [s0] at r1 s1
 have s1' : w.heap.size + 2 ≤ w1.heap.size := by omega
 clear b0 k0 b1 hC hC0 s1
 rw [s0]
 clear s0
 go_wp2_with fail
 refine (l10Draw_any (w.heap.size + 1) a n' c bs' 0 w1 r1 (by omega)).mono ?_
 rintro e w2 ⟨v, vs, p, pos', rfl, o2, f2, z2, r2, hp2, g2⟩
 have s2 := g2.size
 have k2 := k1.grown g2 (by simp)
 have HB2 := xH1 (HB1.out.trans (below_of_grown g2 (by omega) (fun i e => by cases e; omega)))
 have HO : Hid (Own w2 (w.heap.size + 1) v vs p 10) := xH1 ⟨o2, fun q hq => by have := f2 q hq; omega, z2⟩
 clear r1 g2 k1 r2 o2 f2 z2
 have y0 := k2.cell 0 rfl
 have x0 := k2.fz 0
 have y1 := k2.cell 1 rfl
 have x1 := k2.fz 1
 have y2 := k2.cell 2 rfl
 have x2 := k2.fz 2
 have y3 := k2.cell 3 rfl
 have x3 := k2.fz 3
 have y4 := k2.cell 4 rfl
 have x4 := k2.fz 4
 have hz5 : w2.grownBy ((((((w2).setCell ⟨w.heap.size, 0, none⟩ (.slice v.s v.ns v.cs)).setCell ⟨w.heap.size, 1, none⟩ (.slice v.g v.ng v.cg)).setCell ⟨w.heap.size, 2, none⟩ (.slice v.b v.nb v.cb)).setCell ⟨w.heap.size, 3, none⟩ (.slice v.r v.nr v.cr)).setCell ⟨w.heap.size, 4, none⟩ (.slice v.t v.nt v.ct)) (some (w.heap.size)) := grown_trans (grown_trans (grown_trans (grown_trans (grown_set _ _ _ _) (grown_set _ _ _ _)) (grown_set _ _ _ _)) (grown_set _ _ _ _)) (grown_set _ _ _ _)
 have HZ5 := xH1 hz5
 clear hz5
 go_wp2
 refine bodyPost_ret (v := .agg #[.slice v.s v.ns v.cs, .slice v.g v.ng v.cg, .slice v.b v.nb v.cb, .slice v.r v.nr v.cr, .slice v.t v.nt v.ct]) (by simp [results, Try.results33, go_sem, y0, y1, y2, y3, y4]) rfl ⟨v, vs, p, rfl, (HO.out.gr HZ5.out (by omega)).mono (by omega), HB2.out.trans (below_of_grown HZ5.out (by omega) (fun i e => by cases e; omega))⟩
theorem all_zero_bad {h : List Int} {s : Nat} (hs : s < h.length) (hx : h.getD s 0 ≠ 0) : h.all (fun x => decide (x = 0)) = false := by
 rw [List.all_eq_false]
 have e : h.getD s 0 = h[s] := by simp [List.getD, hs]
 rw [e] at hx
 exact ⟨h[s], List.getElem_mem hs, by simpa using hx⟩
theorem all_zero_good {h : List Int} (hx : ∀ s, s < h.length → h.getD s 0 = 0) : h.all (fun x => decide (x = 0)) = true := by
 rw [List.all_eq_true]
 intro x hm
 obtain ⟨s, hs, rfl⟩ := List.getElem_of_mem hm
 have e : h.getD s 0 = h[s] := by simp [List.getD, hs]
 have := hx s hs
 rw [e] at this
 simpa using this
theorem specIsBalanced_any (v : PV) (p : Pg) (w : World) (hr : RdP w v p) (hz : Small v p) :
  Calls Try.prog 35 #[.agg #[.slice v.s v.ns v.cs, .slice v.g v.ng v.cg, .slice v.b v.nb v.cb, .slice v.r v.nr v.cr, .slice v.t v.nt v.ct]] w fun e w' => e = .returned (.bool (isBalanced p)) ∧ Below w.heap.size w w' := by
 have hs : v.ns ≤ maxLen ∧ v.ng ≤ maxLen ∧ v.nb ≤ maxLen ∧ v.nr ≤ maxLen := by
  obtain ⟨z1, z2, z3, z4, z5, z6⟩ := hz; unfold maxLen; omega
 have zz : Hid (v.ns ≤ maxLen ∧ v.ng ≤ maxLen ∧ v.nb ≤ maxLen ∧ v.nr ≤ maxLen) := xH1 hs
 have HZ := xH1 hz
 have z5 : v.nt ≤ 1048576 := hz.lt
 have Z6 := xH1 hz.inn
 have ls := xH1 hr.ls
 have lg := xH1 hr.lg
 have lb := xH1 hr.lb
 have lr := xH1 hr.lr
 have lt := xH1 hr.lt
 clear hz
 have B0 : Below w.heap.size w (w.alloc (.cells #[.slice v.s v.ns v.cs, .slice v.g v.ng v.cg, .slice v.b v.nb v.cb, .slice v.r v.nr v.cr, .slice v.t v.nt v.ct] 26)) := xA1
 have k0 : Blk (w.alloc (.cells #[.slice v.s v.ns v.cs, .slice v.g v.ng v.cg, .slice v.b v.nb v.cb, .slice v.r v.nr v.cr, .slice v.t v.nt v.ct] 26)) w.heap.size #[.slice v.s v.ns v.cs, .slice v.g v.ng v.cg, .slice v.b v.nb v.cb, .slice v.r v.nr v.cr, .slice v.t v.nt v.ct] 26 := Blk.new _ _ _
 have q0 : (w.alloc (.cells #[.slice v.s v.ns v.cs, .slice v.g v.ng v.cg, .slice v.b v.nb v.cb, .slice v.r v.nr v.cr, .slice v.t v.nt v.ct] 26)).cell? ⟨w.heap.size, 0, none⟩ = some (.slice v.s v.ns v.cs) := k0.cell 0 rfl
 have q1 : (w.alloc (.cells #[.slice v.s v.ns v.cs, .slice v.g v.ng v.cg, .slice v.b v.nb v.cb, .slice v.r v.nr v.cr, .slice v.t v.nt v.ct] 26)).cell? ⟨w.heap.size, 1, none⟩ = some (.slice v.g v.ng v.cg) := k0.cell 1 rfl
 have q2 : (w.alloc (.cells #[.slice v.s v.ns v.cs, .slice v.g v.ng v.cg, .slice v.b v.nb v.cb, .slice v.r v.nr v.cr, .slice v.t v.nt v.ct] 26)).cell? ⟨w.heap.size, 2, none⟩ = some (.slice v.b v.nb v.cb) := k0.cell 2 rfl
 have q3 : (w.alloc (.cells #[.slice v.s v.ns v.cs, .slice v.g v.ng v.cg, .slice v.b v.nb v.cb, .slice v.r v.nr v.cr, .slice v.t v.nt v.ct] 26)).cell? ⟨w.heap.size, 3, none⟩ = some (.slice v.r v.nr v.cr) := k0.cell 3 rfl
 have q4 : (w.alloc (.cells #[.slice v.s v.ns v.cs, .slice v.g v.ng v.cg, .slice v.b v.nb v.cb, .slice v.r v.nr v.cr, .slice v.t v.nt v.ct] 26)).cell? ⟨w.heap.size, 4, none⟩ = some (.slice v.t v.nt v.ct) := k0.cell 4 rfl
 clear k0
 obtain ⟨i0, hi0, hz0, hz1, hz2⟩ := info_parts info_int
 rcases Bool.eq_false_or_eq_true (progValid p) with hv | hv
 rotate_left
 ·have HB : Hid (isBalanced p = false) := xH1 (by unfold isBalanced; rw [hv]; rfl)
  have HV := xH1 hv
  clear hv
  go_enter Try.func35, Try.ntmps35
  go_wp2
  obtain ⟨W0, hW0⟩ : ∃ W0 : World, W0 = (w.alloc (.cells #[.slice v.s v.ns v.cs, .slice v.g v.ng v.cg, .slice v.b v.nb v.cb, .slice v.r v.nr v.cr, .slice v.t v.nt v.ct] 26)) := ⟨_, rfl⟩
  rw [← hW0] at B0 q0 q1 q2 q3 q4 ⊢
  clear hW0
  go_loopw [3] (fun i wr => i = .int .i64 0 ∧ wr = W0) (fun i _ => 0)
  case atStart => exact ⟨rfl, rfl⟩
  case round =>
   obtain ⟨rfl, rfl⟩ := hrel
   by_cases h0 : 0 < v.nt
   ·have d0 : decide ((0 : Int) < v.nt) = true := decide_eq_true (by omega)
    go_wp2_with fail
    refine (specProgValid_any v p _ (hr.below B0) HZ.out).mono ?_
    rintro e w1 ⟨rfl, hb⟩
    rw [HV.out]
    have B1 := B0.trans (hb.mono B0.size)
    replace q0 := keepc hb q0
    replace q1 := keepc hb q1
    replace q2 := keepc hb q2
    replace q3 := keepc hb q3
    replace q4 := keepc hb q4
    go_wp2_with fail
    refine (specProgValid_any v p _ (hr.below B1) HZ.out).mono ?_
    rintro e w2 ⟨rfl, hb⟩
    rw [HV.out]
    go_wp2
    go_ret
    exact ⟨ret_bool (by rw [HB.out]), B1.trans (hb.mono B1.size)⟩
   ·have d0 : decide ((0 : Int) < v.nt) = false := decide_eq_false (by omega)
    go_wp2_with fail
    refine (specProgValid_any v p _ (hr.below B0) HZ.out).mono ?_
    rintro e w1 ⟨rfl, hb⟩
    rw [HV.out]
    go_wp2
    go_ret
    exact ⟨ret_bool (by rw [HB.out]), B0.trans (hb.mono B0.size)⟩
 have hln := (valid_threads hv).1
 have HVO : Hid (∀ i k, i < p.threads.length → k < (p.threads.getD i []).length → opValid p ((p.threads.getD i []).getD k noOp) = true) := xH1 (fun i k hi hk => valid_op hv hi hk)
 have HV := xH1 hv
 clear hv
 go_enter Try.func35, Try.ntmps35
 go_wp2
 obtain ⟨W0, hW0⟩ : ∃ W0 : World, W0 = (w.alloc (.cells #[.slice v.s v.ns v.cs, .slice v.g v.ng v.cg, .slice v.b v.nb v.cb, .slice v.r v.nr v.cr, .slice v.t v.nt v.ct] 26)) := ⟨_, rfl⟩
 rw [← hW0] at B0 q0 q1 q2 q3 q4 ⊢
 clear hW0
 obtain ⟨vs, hT⟩ := hr.rt
 obtain ⟨b1, o1, ea, g1'⟩ := (hT.below B0).thread (by omega)
 rw [ea] at q4
 have HRP : Hid (∀ w', RdP w' v p → RdP w' ⟨v.s, v.ns, v.cs, v.g, v.ng, v.cg, v.b, v.nb, v.cb, v.r, v.nr, v.cr, some ⟨b1, o1, none⟩, v.nt, v.ct⟩ p) := xH1 (by rw [← ea]; exact fun _ h => h)
 have G1 := xH1 g1'
 clear g1' ea hT
 have zs : v.ns ≤ 1048576 := HZ.out.ls
 go_loopw [3] (fun i wr => ∃ i' : Nat, i' ≤ v.nt ∧ i = .int .i64 i' ∧ Hid (∀ j, j < i' → balThread p.sems.length (p.threads.getD j []) = true) ∧ Below W0.heap.size W0 wr) (fun i _ => v.nt - (intOf i).toNat)
 case atStart => exact ⟨0, by omega, rfl, xH1 (by omega), Below.refl _ _⟩
 case round =>
  obtain ⟨i, hi, rfl, hall, hb0⟩ := hrel
  have B2 : Below w.heap.size w wr := B0.trans (hb0.mono B0.size)
  have c0 := keepc hb0 q0
  have c1 := keepc hb0 q1
  have c2 := keepc hb0 q2
  have c3 := keepc hb0 q3
  have c4 := keepc hb0 q4
  by_cases hlt : i < v.nt
  ·have dlt : decide ((i : Int) < v.nt) = true := decide_eq_true (by omega)
   go_wp2_with fail
   refine (specProgValid_any ⟨v.s, v.ns, v.cs, v.g, v.ng, v.cg, v.b, v.nb, v.cb, v.r, v.nr, v.cr, some ⟨b1, o1, none⟩, v.nt, v.ct⟩ p _ (HRP.out _ (hr.below B2)) ⟨HZ.out.ls, HZ.out.lg, HZ.out.lb, HZ.out.lr, HZ.out.lt, HZ.out.inn⟩).mono ?_
   rintro e wo ⟨rfl, hb⟩
   rw [HV.out]
   replace hb0 := hb0.trans (hb.mono hb0.size)
   replace B2 := B2.trans (hb.mono B2.size)
   replace c0 := keepc hb c0
   replace c1 := keepc hb c1
   replace c2 := keepc hb c2
   replace c3 := keepc hb c3
   replace c4 := keepc hb c4
   clear hb wr dlt
   obtain ⟨a2, x2, g1, r2⟩ := G1.out i (by have := lt.out; omega)
   obtain ⟨m, hm⟩ : ∃ m, m = (p.threads.getD i []).length := ⟨_, rfl⟩
   rw [← hm] at g1
   replace g1 := keepc hb0 g1
   replace r2 := r2.below hb0
   have hmm := Z6.out i
   rw [← hm] at hmm
   have HM := xH1 hm
   clear hm
   go_wp2_with (refine wpList_make_full _ rfl _ _ 23 rfl wo.heap.size 3 i0 (.int .i64 0) 1 Try.underlying23 hi0 hz0 hz1 _ _ _ _ v.ns rfl rfl rfl rfl (by rw [hz2]; omega) (by unfold maxLen; omega) xL1 ?_; intro w2 hown1 hgr1)
   rw [show (Value.int .i64 0).cells = #[.int .i64 0] from rfl, Nat.mul_one, toList_madeCells_one] at hown1
   have hb2 : Below wo.heap.size wo w2 := below_of_grown hgr1 xL1 (by simp)
   clear hgr1
   go_loopw [5] (fun j wk => ∃ (k : Nat) (h : List Int), k ≤ m ∧ j = .int .i64 k ∧ Hid (balRun (List.replicate v.ns 0) ((p.threads.getD i []).take k) = some h ∧ Held v.ns k h) ∧ wk.ownsRow wo.heap.size 3 1 (.slice (some ⟨wo.heap.size, 0, none⟩) v.ns v.ns) v.ns (ints h) ∧ Below wo.heap.size wo wk) (fun j _ => m - (intOf j).toNat)
   case atStart => exact ⟨0, List.replicate v.ns 0, by omega, rfl, xH1 ⟨rfl, held_start _⟩, by simpa [ints] using hown1, hb2⟩
   case round =>
    obtain ⟨k, h, hk, rfl, hrun, hown, hbk⟩ := hrel
    have B3 : Below w.heap.size w wr := B2.trans (hbk.mono B2.size)
    have BW : Below W0.heap.size W0 wr := hb0.trans (hbk.mono hb0.size)
    have d4 := keepc hbk c4
    have f1 := keepc hbk g1
    by_cases hkl : k < m
    ·skip
     obtain ⟨b2, o2, ea2, g2'⟩ := r2.op (by have := HM.out; omega)
     obtain ⟨g2a, g2b, g2c⟩ := g2' k (by have := HM.out; omega)
     obtain ⟨o, ho⟩ : ∃ o, o = (p.threads.getD i []).getD k noOp := ⟨_, rfl⟩
     rw [← ho] at g2a g2b g2c
     replace g2a := keepc hbk g2a
     replace g2b := keepc hbk g2b
     replace g2c := keepc hbk g2c
     have HO := xH1 ho
     subst ea2
     clear g2' ho
     have hop := HVO.out i k (by have := lt.out; omega) (by have := HM.out; omega)
     rw [← HO.out] at hop
     have HNX : Hid (balRun (List.replicate v.ns 0) ((p.threads.getD i []).take (k + 1)) = balStep h o) := xH1 (by
      rw [balRun_snoc (by have := HM.out; omega), hrun.out.1, ← HO.out]; rfl)
     have bA : Below wr.heap.size wr (wr.alloc (.cells #[.int .i64 o.kind, .int .i64 o.on, .int .i64 o.arg] 61)) := xA1
     have kA : Blk (wr.alloc (.cells #[.int .i64 o.kind, .int .i64 o.on, .int .i64 o.arg] 61)) wr.heap.size #[.int .i64 o.kind, .int .i64 o.on, .int .i64 o.arg] 61 := Blk.new _ _ _
     have hownA := owns_below hown bA
     have hbA : Below wo.heap.size wo (wr.alloc (.cells #[.int .i64 o.kind, .int .i64 o.on, .int .i64 o.arg] 61)) := hbk.trans (bA.mono hbk.size)
     obtain ⟨WA, hWA⟩ : ∃ WA : World, WA = (wr.alloc (.cells #[.int .i64 o.kind, .int .i64 o.on, .int .i64 o.arg] 61)) := ⟨_, rfl⟩
     have e0 : (wr.alloc (.cells #[.int .i64 o.kind, .int .i64 o.on, .int .i64 o.arg] 61)).cell? ⟨wr.heap.size, 0, none⟩ = some (.int .i64 o.kind) := kA.cell 0 rfl
     have e1 : (wr.alloc (.cells #[.int .i64 o.kind, .int .i64 o.on, .int .i64 o.arg] 61)).cell? ⟨wr.heap.size, 1, none⟩ = some (.int .i64 o.on) := kA.cell 1 rfl
     have e2 : (wr.alloc (.cells #[.int .i64 o.kind, .int .i64 o.on, .int .i64 o.arg] 61)).cell? ⟨wr.heap.size, 2, none⟩ = some (.int .i64 o.arg) := kA.cell 2 rfl
     rw [← hWA] at hownA hbA e0 e1 e2 bA
     have HWA := xH1 hWA
     clear hWA kA bA
     by_cases h2 : o.kind = 2
     ·obtain ⟨⟨on0, on1⟩, a1, a9⟩ := valid_arg HV.out hop (.inl h2)
      rw [ls.out] at on1
      obtain ⟨x, hx⟩ : ∃ x, x = h.getD o.on.toNat 0 := ⟨_, rfl⟩
      have hxb := hrun.out.2.2 o.on.toNat
      rw [← hx] at hxb
      have hwr : IntKind.i64.wrap (x + o.arg) = x + o.arg := Go.IntWalk.i64_in _ (by have := HM.out; omega)
      have hcell : WA.cell? ⟨wo.heap.size, o.on.toNat, none⟩ = some (.int .i64 x) := by
       have hl := hrun.out.2.1
       have := hownA.cellAt o.on.toNat (by omega)
       rw [this, hx]; simp [ints, List.getD, show o.on.toNat < h.length by omega]
      have hfz := hownA.frozenAt o.on.toNat
      have R := owns_store (owns_below hownA xB1.drew) o.on.toNat (.int .i64 (x + o.arg)) (cs' := ints (h.set o.on.toNat (x + o.arg))) (by simp [ints, List.map_set])
      have HST : Hid (balStep h o = some (h.set o.on.toNat (x + o.arg))) := xH1 (by unfold balStep; rw [if_pos h2, hx])
      have t2 : (o.kind == 2) = true := by simpa using h2
      have HX := xH1 hx
      have HR := xH1 R
      have HXB := xH1 hxb
      clear hx R hop hownA hown hxb h2
      go_wp2
      rw [← HWA.out]
      go_still_tail 12, (by kernel_rfl)
      go_wp2
      go_roundw
      case rel => exact ⟨k + 1, h.set o.on.toNat (x + o.arg), by omega, by go_num, xH1 ⟨by rw [HNX.out, HST.out], held_set hrun.out.2 (by have := HXB.out; omega)⟩, HR.out.1, (hbA.drew).trans (below_of_grown HR.out.2 hbA.drew.size (by simp))⟩
      case measure => simp [intOf]; omega
     ·have t2 : (o.kind == 2) = false := by simpa using h2
      by_cases h3 : o.kind = 3
      ·obtain ⟨⟨on0, on1⟩, a1, a9⟩ := valid_arg HV.out hop (.inr h3)
       rw [ls.out] at on1
       obtain ⟨x, hx⟩ : ∃ x, x = h.getD o.on.toNat 0 := ⟨_, rfl⟩
       have hxb := hrun.out.2.2 o.on.toNat
       rw [← hx] at hxb
       have hwr : IntKind.i64.wrap (x - o.arg) = x - o.arg := Go.IntWalk.i64_in _ (by have := HM.out; omega)
       have hcell : WA.cell? ⟨wo.heap.size, o.on.toNat, none⟩ = some (.int .i64 x) := by
        have hl := hrun.out.2.1
        have := hownA.cellAt o.on.toNat (by omega)
        rw [this, hx]; simp [ints, List.getD, show o.on.toNat < h.length by omega]
       have hfz := hownA.frozenAt o.on.toNat
       have R := owns_store (owns_below hownA xB1.drew) o.on.toNat (.int .i64 (x - o.arg)) (cs' := ints (h.set o.on.toNat (x - o.arg))) (by simp [ints, List.map_set])
       have HST : Hid (balStep h o = if x - o.arg < 0 then none else some (h.set o.on.toNat (x - o.arg))) := xH1 (by unfold balStep; rw [if_neg h2, if_pos h3, hx])
       have t3 : (o.kind == 3) = true := by simpa using h3
       have HX := xH1 hx
       have HR := xH1 R
       have HXB := xH1 hxb
       have R2 := owns_store hownA o.on.toNat (.int .i64 (x - o.arg)) (cs' := ints (h.set o.on.toNat (x - o.arg))) (by simp [ints, List.map_set])
       have hcell2 : (WA.setCell ⟨wo.heap.size, o.on.toNat, none⟩ (.int .i64 (x - o.arg))).cell? ⟨wo.heap.size, o.on.toNat, none⟩ = some (.int .i64 (x - o.arg)) := by
        have hl := hrun.out.2.1
        have := R2.1.cellAt o.on.toNat (by omega)
        rw [this]; simp [ints, show o.on.toNat < h.length by omega]
       have bS : Below wr.heap.size wr WA := by rw [HWA.out]; exact xA1
       have e1S : (WA.setCell ⟨wo.heap.size, o.on.toNat, none⟩ (.int .i64 (x - o.arg))).cell? ⟨wr.heap.size, 1, none⟩ = some (.int .i64 o.on) := by
        have hne : wo.heap.size ≠ wr.heap.size := by
         obtain ⟨g, hg, h1, h2⟩ := owns_at hown (by omega)
         simp only [Option.some.injEq, Addr.mk.injEq, and_true] at hg
         omega
        rw [World.cell?_setCell_far _ _ _ _ (by simpa using hne)]
        exact e1
       by_cases hneg : x - o.arg < 0
       ·have tn : decide (x - o.arg < 0) = true := decide_eq_true hneg
        have HB : Hid (isBalanced p = false) := xH1 (bal_bad (i := i) (by have := lt.out; omega) (by
         unfold balThread
         rw [ls.out, balRun_none (k := k + 1) (by rw [HNX.out, HST.out, if_pos hneg])]))
        clear hx R R2 hop hownA hown hxb h2 h3
        go_wp2
        rw [← HWA.out]
        go_still_tail 12, (by kernel_rfl)
        go_wp2
        go_ret
        exact ⟨ret_bool (by rw [HB.out]), (B2.trans (hbA.mono B2.size)).drew.trans (below_of_grown HR.out.2 (B2.trans (hbA.mono B2.size)).drew.size (by rintro g hg; cases hg; exact B2.size))⟩
       ·have tn : decide (x - o.arg < 0) = false := decide_eq_false hneg
        clear hx R R2 hop hownA hown hxb h2 h3
        go_wp2
        rw [← HWA.out]
        go_still_tail 12, (by kernel_rfl)
        go_wp2
        go_roundw
        case rel => exact ⟨k + 1, h.set o.on.toNat (x - o.arg), by omega, by go_num, xH1 ⟨by rw [HNX.out, HST.out, if_neg (by omega)], held_set hrun.out.2 (by have := HXB.out; omega)⟩, HR.out.1, (hbA.drew).trans (below_of_grown HR.out.2 hbA.drew.size (by simp))⟩
        case measure => simp [intOf]; omega
      ·have t3 : (o.kind == 3) = false := by simpa using h3
       have HST : Hid (balStep h o = some h) := xH1 (by unfold balStep; rw [if_neg h2, if_neg h3])
       have HR := xH1 hownA
       clear hop hownA hown h2 h3
       go_wp2
       rw [← HWA.out]
       go_roundw
       case rel => exact ⟨k + 1, h, by omega, by go_num, xH1 ⟨by rw [HNX.out, HST.out], held_same hrun.out.2⟩, HR.out, hbA⟩
       case measure => simp [intOf]; omega
    ·have hkm : k = m := by omega
     subst hkm
     have hbr : Hid (balRun (List.replicate v.ns 0) (p.threads.getD i []) = some h) := xH1 (by
      have := hrun.out.1; rw [HM.out, List.take_length] at this; exact this)
     have hlen := hrun.out.2.1
     go_wp2
     go_loopw [7] (fun j wk => ∃ s : Nat, s ≤ v.ns ∧ j = .int .i64 s ∧ Hid (∀ j, j < s → h.getD j 0 = 0) ∧ wk = wr) (fun j _ => v.ns - (intOf j).toNat)
     case atStart => exact ⟨0, by omega, rfl, xH1 (by omega), rfl⟩
     case round =>
      obtain ⟨s, hsn, rfl, hzero, rfl⟩ := hrel
      by_cases hsl : s < v.ns
      ·obtain ⟨x, hx⟩ : ∃ x, x = h.getD s 0 := ⟨_, rfl⟩
       have hcell : wr.cell? ⟨wo.heap.size, s, none⟩ = some (.int .i64 x) := by
        have := hown.cellAt s (by omega)
        rw [this, hx]; simp [ints, List.getD, show s < h.length by omega]
       have HX := xH1 hx
       clear hx
       by_cases h0 : x = 0
       ·have t0 : (x != 0) = false := by simpa using h0
        have HZ0 := xH1 h0
        clear h0
        go_wp2
        go_roundw
        case rel => exact ⟨s + 1, by omega, by go_num, xH1 (fun j hj => by
         rcases Nat.lt_or_ge j s with h | h
         ·exact hzero.out j h
         ·have : j = s := by omega
          subst this
          rw [← HX.out]; exact HZ0.out), trivial⟩
        case measure => simp [intOf]; omega
       ·have t0 : (x != 0) = true := by simpa using h0
        have HB : Hid (isBalanced p = false) := xH1 (bal_bad (i := i) (by have := lt.out; omega) (by
         unfold balThread
         rw [ls.out, hbr.out]
         exact all_zero_bad (s := s) (by omega) (by rw [← HX.out]; exact h0)))
        clear h0
        go_wp2
        go_ret
        exact ⟨ret_bool (by rw [HB.out]), B3⟩
      ·have hsm : s = v.ns := by omega
       subst hsm
       have HG : Hid (balThread p.sems.length (p.threads.getD i []) = true) := xH1 (by
        unfold balThread
        rw [ls.out, hbr.out]
        exact all_zero_good (by rw [hlen]; exact hzero.out))
       go_wp2
       go_roundw
       case rel => exact ⟨i + 1, by omega, by go_num, xH1 (fun j hj => by
        rcases Nat.lt_or_ge j i with h | h
        ·exact hall.out j h
        ·have : j = i := by omega
         subst this
         exact HG.out), BW⟩
       case measure => simp [intOf]; omega
  ·have dlt : decide ((i : Int) < v.nt) = false := decide_eq_false (by omega)
   have hkm : i = v.nt := by omega
   subst hkm
   have HB : Hid (isBalanced p = true) := xH1 (bal_good HV.out (by rw [lt.out]; exact hall.out))
   go_wp2_with fail
   refine (specProgValid_any ⟨v.s, v.ns, v.cs, v.g, v.ng, v.cg, v.b, v.nb, v.cb, v.r, v.nr, v.cr, some ⟨b1, o1, none⟩, v.nt, v.ct⟩ p _ (HRP.out _ (hr.below B2)) ⟨HZ.out.ls, HZ.out.lg, HZ.out.lb, HZ.out.lr, HZ.out.lt, HZ.out.inn⟩).mono ?_
   rintro e we ⟨rfl, hb⟩
   rw [HV.out]
   go_wp2
   go_ret
   exact ⟨ret_bool (by rw [HB.out]), B2.trans (hb.mono B2.size)⟩
theorem nonZero_any (x : Int) (w : World) :
  Calls Try.prog 64 (#[.int .i64 x] ++ #[]) w fun e w' => e = .returned (.bool (!(decide (x = 0)))) ∧ w' = w := by
 go_enter Try.func64, Try.ntmps64
 go_wp2
 go_ret
 exact ⟨rfl, rfl⟩
theorem implIsBalanced_any (v : PV) (p : Pg) (w : World) (hr : RdP w v p) (hz : Small v p) :
  Calls Try.prog 34 #[.agg #[.slice v.s v.ns v.cs, .slice v.g v.ng v.cg, .slice v.b v.nb v.cb, .slice v.r v.nr v.cr, .slice v.t v.nt v.ct]] w fun e w' => e = .returned (.bool (isBalanced p)) ∧ Below w.heap.size w w' := by
 have hs : v.ns ≤ maxLen ∧ v.ng ≤ maxLen ∧ v.nb ≤ maxLen ∧ v.nr ≤ maxLen := by
  obtain ⟨z1, z2, z3, z4, z5, z6⟩ := hz; unfold maxLen; omega
 have zz : Hid (v.ns ≤ maxLen ∧ v.ng ≤ maxLen ∧ v.nb ≤ maxLen ∧ v.nr ≤ maxLen) := xH1 hs
 have HZ := xH1 hz
 have z5 : v.nt ≤ 1048576 := hz.lt
 have Z6 := xH1 hz.inn
 have ls := xH1 hr.ls
 have lg := xH1 hr.lg
 have lb := xH1 hr.lb
 have lr := xH1 hr.lr
 have lt := xH1 hr.lt
 clear hz
 have B0 : Below w.heap.size w (w.alloc (.cells #[.slice v.s v.ns v.cs, .slice v.g v.ng v.cg, .slice v.b v.nb v.cb, .slice v.r v.nr v.cr, .slice v.t v.nt v.ct] 26)) := xA1
 have k0 : Blk (w.alloc (.cells #[.slice v.s v.ns v.cs, .slice v.g v.ng v.cg, .slice v.b v.nb v.cb, .slice v.r v.nr v.cr, .slice v.t v.nt v.ct] 26)) w.heap.size #[.slice v.s v.ns v.cs, .slice v.g v.ng v.cg, .slice v.b v.nb v.cb, .slice v.r v.nr v.cr, .slice v.t v.nt v.ct] 26 := Blk.new _ _ _
 have q0 : (w.alloc (.cells #[.slice v.s v.ns v.cs, .slice v.g v.ng v.cg, .slice v.b v.nb v.cb, .slice v.r v.nr v.cr, .slice v.t v.nt v.ct] 26)).cell? ⟨w.heap.size, 0, none⟩ = some (.slice v.s v.ns v.cs) := k0.cell 0 rfl
 have q1 : (w.alloc (.cells #[.slice v.s v.ns v.cs, .slice v.g v.ng v.cg, .slice v.b v.nb v.cb, .slice v.r v.nr v.cr, .slice v.t v.nt v.ct] 26)).cell? ⟨w.heap.size, 1, none⟩ = some (.slice v.g v.ng v.cg) := k0.cell 1 rfl
 have q2 : (w.alloc (.cells #[.slice v.s v.ns v.cs, .slice v.g v.ng v.cg, .slice v.b v.nb v.cb, .slice v.r v.nr v.cr, .slice v.t v.nt v.ct] 26)).cell? ⟨w.heap.size, 2, none⟩ = some (.slice v.b v.nb v.cb) := k0.cell 2 rfl
 have q3 : (w.alloc (.cells #[.slice v.s v.ns v.cs, .slice v.g v.ng v.cg, .slice v.b v.nb v.cb, .slice v.r v.nr v.cr, .slice v.t v.nt v.ct] 26)).cell? ⟨w.heap.size, 3, none⟩ = some (.slice v.r v.nr v.cr) := k0.cell 3 rfl
 have q4 : (w.alloc (.cells #[.slice v.s v.ns v.cs, .slice v.g v.ng v.cg, .slice v.b v.nb v.cb, .slice v.r v.nr v.cr, .slice v.t v.nt v.ct] 26)).cell? ⟨w.heap.size, 4, none⟩ = some (.slice v.t v.nt v.ct) := k0.cell 4 rfl
 clear k0
 obtain ⟨i0, hi0, hz0, hz1, hz2⟩ := info_parts info_int
 rcases Bool.eq_false_or_eq_true (progValid p) with hv | hv
 rotate_left
 ·have HB : Hid (isBalanced p = false) := xH1 (by unfold isBalanced; rw [hv]; rfl)
  have HV := xH1 hv
  clear hv
  go_enter Try.func34, Try.ntmps34
  go_wp2_with fail
  refine (implProgValid_any v p _ (hr.below B0) HZ.out).mono ?_
  rintro e w1 ⟨rfl, hb⟩
  rw [HV.out]
  have B1 := B0.trans (hb.mono B0.size)
  replace q0 := keepc hb q0
  replace q1 := keepc hb q1
  replace q2 := keepc hb q2
  replace q3 := keepc hb q3
  replace q4 := keepc hb q4
  clear hb B0
  go_wp2
  go_ret
  exact ⟨ret_bool (by rw [HB.out]), B1⟩
 have hln := (valid_threads hv).1
 have HVO : Hid (∀ i k, i < p.threads.length → k < (p.threads.getD i []).length → opValid p ((p.threads.getD i []).getD k noOp) = true) := xH1 (fun i k hi hk => valid_op hv hi hk)
 have HV := xH1 hv
 clear hv
 go_enter Try.func34, Try.ntmps34
 go_wp2_with fail
 refine (implProgValid_any v p _ (hr.below B0) HZ.out).mono ?_
 rintro e w1 ⟨rfl, hb⟩
 rw [HV.out]
 have B1 := B0.trans (hb.mono B0.size)
 replace q0 := keepc hb q0
 replace q1 := keepc hb q1
 replace q2 := keepc hb q2
 replace q3 := keepc hb q3
 replace q4 := keepc hb q4
 clear hb B0
 go_wp2
 obtain ⟨vs, hT⟩ := hr.rt
 obtain ⟨b1, o1, ea, g1'⟩ := (hT.below B1).thread (by omega)
 rw [ea] at q4
 have HRP : Hid (∀ w', RdP w' v p → RdP w' ⟨v.s, v.ns, v.cs, v.g, v.ng, v.cg, v.b, v.nb, v.cb, v.r, v.nr, v.cr, some ⟨b1, o1, none⟩, v.nt, v.ct⟩ p) := xH1 (by rw [← ea]; exact fun _ h => h)
 have G1 := xH1 g1'
 rw [ea]
 clear g1' ea hT
 go_loopw [14] (fun i wr => ∃ i' : Nat, i' ≤ v.nt ∧ i = .int .i64 i' ∧ Hid (∀ j, j < i' → balThread p.sems.length (p.threads.getD j []) = true) ∧ Below w1.heap.size w1 wr) (fun i _ => v.nt - (intOf i).toNat)
 case atStart => exact ⟨0, by omega, rfl, xH1 (by omega), Below.refl _ _⟩
 case round =>
  obtain ⟨i, hi, rfl, hall, hb0⟩ := hrel
  have B2 : Below w.heap.size w wr := B1.trans (hb0.mono B1.size)
  have c0 := keepc hb0 q0
  by_cases hlt : i < v.nt
  ·obtain ⟨wo, hwo⟩ : ∃ wo : World, wo = wr := ⟨_, rfl⟩
   rw [← hwo] at hb0 B2 c0 ⊢
   clear hwo wr
   obtain ⟨a2, x2, g1, r2⟩ := G1.out i (by have := lt.out; omega)
   obtain ⟨m, hm⟩ : ∃ m, m = (p.threads.getD i []).length := ⟨_, rfl⟩
   rw [← hm] at g1
   replace g1 := keepc hb0 g1
   replace r2 := r2.below hb0
   have hmm := Z6.out i
   rw [← hm] at hmm
   have HM := xH1 hm
   clear hm
   have zs : v.ns ≤ 1048576 := HZ.out.ls
   go_wp2_with (refine wpList_make_full _ rfl _ _ 23 rfl wo.heap.size 3 i0 (.int .i64 0) 1 Try.underlying23 hi0 hz0 hz1 _ _ _ _ v.ns rfl rfl rfl rfl (by rw [hz2]; omega) (by unfold maxLen; omega) xL1 ?_; intro w2 hown1 hgr1)
   rw [show (Value.int .i64 0).cells = #[.int .i64 0] from rfl, Nat.mul_one, toList_madeCells_one] at hown1
   have hb2 : Below wo.heap.size wo w2 := below_of_grown hgr1 xL1 (by simp)
   clear hgr1
   go_loopw [24] (fun j wk => ∃ (k : Nat) (h : List Int), k ≤ m ∧ j = .int .i64 k ∧ Hid (balRun (List.replicate v.ns 0) ((p.threads.getD i []).take k) = some h ∧ Held v.ns k h) ∧ wk.ownsRow wo.heap.size 3 1 (.slice (some ⟨wo.heap.size, 0, none⟩) v.ns v.ns) v.ns (ints h) ∧ Below wo.heap.size wo wk) (fun j _ => m - (intOf j).toNat)
   case atStart => exact ⟨0, List.replicate v.ns 0, by omega, rfl, xH1 ⟨rfl, held_start _⟩, by simpa [ints] using hown1, hb2⟩
   case round =>
    obtain ⟨k, h, hk, rfl, hrun, hown, hbk⟩ := hrel
    have B3 : Below w.heap.size w wr := B2.trans (hbk.mono B2.size)
    have BW : Below w1.heap.size w1 wr := hb0.trans (hbk.mono hb0.size)
    by_cases hkl : k < m
    ·skip
     obtain ⟨b2, o2, ea2, g2'⟩ := r2.op (by have := HM.out; omega)
     obtain ⟨g2a, g2b, g2c⟩ := g2' k (by have := HM.out; omega)
     obtain ⟨o, ho⟩ : ∃ o, o = (p.threads.getD i []).getD k noOp := ⟨_, rfl⟩
     rw [← ho] at g2a g2b g2c
     replace g2a := keepc hbk g2a
     replace g2b := keepc hbk g2b
     replace g2c := keepc hbk g2c
     have HO := xH1 ho
     subst ea2
     clear g2' ho
     have hop := HVO.out i k (by have := lt.out; omega) (by have := HM.out; omega)
     rw [← HO.out] at hop
     have HNX : Hid (balRun (List.replicate v.ns 0) ((p.threads.getD i []).take (k + 1)) = balStep h o) := xH1 (by
      rw [balRun_snoc (by have := HM.out; omega), hrun.out.1, ← HO.out]; rfl)
     have bA : Below wr.heap.size wr (wr.alloc (.cells #[.int .i64 o.kind, .int .i64 o.on, .int .i64 o.arg] 61)) := xA1
     have kA : Blk (wr.alloc (.cells #[.int .i64 o.kind, .int .i64 o.on, .int .i64 o.arg] 61)) wr.heap.size #[.int .i64 o.kind, .int .i64 o.on, .int .i64 o.arg] 61 := Blk.new _ _ _
     have hownA := owns_below hown bA
     have hbA : Below wo.heap.size wo (wr.alloc (.cells #[.int .i64 o.kind, .int .i64 o.on, .int .i64 o.arg] 61)) := hbk.trans (bA.mono hbk.size)
     obtain ⟨WA, hWA⟩ : ∃ WA : World, WA = (wr.alloc (.cells #[.int .i64 o.kind, .int .i64 o.on, .int .i64 o.arg] 61)) := ⟨_, rfl⟩
     have e0 : (wr.alloc (.cells #[.int .i64 o.kind, .int .i64 o.on, .int .i64 o.arg] 61)).cell? ⟨wr.heap.size, 0, none⟩ = some (.int .i64 o.kind) := kA.cell 0 rfl
     have e1 : (wr.alloc (.cells #[.int .i64 o.kind, .int .i64 o.on, .int .i64 o.arg] 61)).cell? ⟨wr.heap.size, 1, none⟩ = some (.int .i64 o.on) := kA.cell 1 rfl
     have e2 : (wr.alloc (.cells #[.int .i64 o.kind, .int .i64 o.on, .int .i64 o.arg] 61)).cell? ⟨wr.heap.size, 2, none⟩ = some (.int .i64 o.arg) := kA.cell 2 rfl
     rw [← hWA] at hownA hbA e0 e1 e2 bA
     have HWA := xH1 hWA
     clear hWA kA bA
     by_cases h2 : o.kind = 2
     ·obtain ⟨⟨on0, on1⟩, a1, a9⟩ := valid_arg HV.out hop (.inl h2)
      rw [ls.out] at on1
      obtain ⟨x, hx⟩ : ∃ x, x = h.getD o.on.toNat 0 := ⟨_, rfl⟩
      have hxb := hrun.out.2.2 o.on.toNat
      rw [← hx] at hxb
      have hwr : IntKind.i64.wrap (x + o.arg) = x + o.arg := Go.IntWalk.i64_in _ (by have := HM.out; omega)
      have hcell : WA.cell? ⟨wo.heap.size, o.on.toNat, none⟩ = some (.int .i64 x) := by
       have hl := hrun.out.2.1
       have := hownA.cellAt o.on.toNat (by omega)
       rw [this, hx]; simp [ints, List.getD, show o.on.toNat < h.length by omega]
      have hfz := hownA.frozenAt o.on.toNat
      have R := owns_store (owns_below hownA xB1.drew) o.on.toNat (.int .i64 (x + o.arg)) (cs' := ints (h.set o.on.toNat (x + o.arg))) (by simp [ints, List.map_set])
      have HST : Hid (balStep h o = some (h.set o.on.toNat (x + o.arg))) := xH1 (by unfold balStep; rw [if_pos h2, hx])
      have t2 : (o.kind == 2) = true := by simpa using h2
      have HX := xH1 hx
      have HR := xH1 R
      have HXB := xH1 hxb
      clear hx R hop hownA hown hxb h2
      go_wp2
      rw [← HWA.out]
      go_still_tail 9, (by kernel_rfl)
      go_wp2
      go_roundw
      case rel => exact ⟨k + 1, h.set o.on.toNat (x + o.arg), by omega, by go_num, xH1 ⟨by rw [HNX.out, HST.out], held_set hrun.out.2 (by have := HXB.out; omega)⟩, HR.out.1, (hbA.drew).trans (below_of_grown HR.out.2 hbA.drew.size (by simp))⟩
      case measure => simp [intOf]; omega
     ·have t2 : (o.kind == 2) = false := by simpa using h2
      by_cases h3 : o.kind = 3
      ·obtain ⟨⟨on0, on1⟩, a1, a9⟩ := valid_arg HV.out hop (.inr h3)
       rw [ls.out] at on1
       obtain ⟨x, hx⟩ : ∃ x, x = h.getD o.on.toNat 0 := ⟨_, rfl⟩
       have hxb := hrun.out.2.2 o.on.toNat
       rw [← hx] at hxb
       have hwr : IntKind.i64.wrap (x - o.arg) = x - o.arg := Go.IntWalk.i64_in _ (by have := HM.out; omega)
       have hcell : WA.cell? ⟨wo.heap.size, o.on.toNat, none⟩ = some (.int .i64 x) := by
        have hl := hrun.out.2.1
        have := hownA.cellAt o.on.toNat (by omega)
        rw [this, hx]; simp [ints, List.getD, show o.on.toNat < h.length by omega]
       have hfz := hownA.frozenAt o.on.toNat
       have R := owns_store (owns_below hownA xB1.drew) o.on.toNat (.int .i64 (x - o.arg)) (cs' := ints (h.set o.on.toNat (x - o.arg))) (by simp [ints, List.map_set])
       have HST : Hid (balStep h o = if x - o.arg < 0 then none else some (h.set o.on.toNat (x - o.arg))) := xH1 (by unfold balStep; rw [if_neg h2, if_pos h3, hx])
       have t3 : (o.kind == 3) = true := by simpa using h3
       have HX := xH1 hx
       have HR := xH1 R
       have HXB := xH1 hxb
       have R2 := owns_store hownA o.on.toNat (.int .i64 (x - o.arg)) (cs' := ints (h.set o.on.toNat (x - o.arg))) (by simp [ints, List.map_set])
       have hcell2 : (WA.setCell ⟨wo.heap.size, o.on.toNat, none⟩ (.int .i64 (x - o.arg))).cell? ⟨wo.heap.size, o.on.toNat, none⟩ = some (.int .i64 (x - o.arg)) := by
        have hl := hrun.out.2.1
        have := R2.1.cellAt o.on.toNat (by omega)
        rw [this]; simp [ints, show o.on.toNat < h.length by omega]
       have bS : Below wr.heap.size wr WA := by rw [HWA.out]; exact xA1
       have e1S : (WA.setCell ⟨wo.heap.size, o.on.toNat, none⟩ (.int .i64 (x - o.arg))).cell? ⟨wr.heap.size, 1, none⟩ = some (.int .i64 o.on) := by
        have hne : wo.heap.size ≠ wr.heap.size := by
         obtain ⟨g, hg, h1, h2⟩ := owns_at hown (by omega)
         simp only [Option.some.injEq, Addr.mk.injEq, and_true] at hg
         omega
        rw [World.cell?_setCell_far _ _ _ _ (by simpa using hne)]
        exact e1
       by_cases hneg : x - o.arg < 0
       ·have tn : decide (x - o.arg < 0) = true := decide_eq_true hneg
        have HB : Hid (isBalanced p = false) := xH1 (bal_bad (i := i) (by have := lt.out; omega) (by
         unfold balThread
         rw [ls.out, balRun_none (k := k + 1) (by rw [HNX.out, HST.out, if_pos hneg])]))
        clear hx R R2 hop hownA hown hxb h2 h3
        go_wp2
        rw [← HWA.out]
        go_still_tail 9, (by kernel_rfl)
        go_wp2
        go_ret
        exact ⟨ret_bool (by rw [HB.out]), (B2.trans (hbA.mono B2.size)).drew.trans (below_of_grown HR.out.2 (B2.trans (hbA.mono B2.size)).drew.size (by rintro g hg; cases hg; exact B2.size))⟩
       ·have tn : decide (x - o.arg < 0) = false := decide_eq_false hneg
        clear hx R R2 hop hownA hown hxb h2 h3
        go_wp2
        rw [← HWA.out]
        go_still_tail 9, (by kernel_rfl)
        go_wp2
        go_roundw
        case rel => exact ⟨k + 1, h.set o.on.toNat (x - o.arg), by omega, by go_num, xH1 ⟨by rw [HNX.out, HST.out, if_neg (by omega)], held_set hrun.out.2 (by have := HXB.out; omega)⟩, HR.out.1, (hbA.drew).trans (below_of_grown HR.out.2 hbA.drew.size (by simp))⟩
        case measure => simp [intOf]; omega
      ·have t3 : (o.kind == 3) = false := by simpa using h3
       have HST : Hid (balStep h o = some h) := xH1 (by unfold balStep; rw [if_neg h2, if_neg h3])
       have HR := xH1 hownA
       clear hop hownA hown h2 h3
       go_wp2
       rw [← HWA.out]
       go_roundw
       case rel => exact ⟨k + 1, h, by omega, by go_num, xH1 ⟨by rw [HNX.out, HST.out], held_same hrun.out.2⟩, HR.out, hbA⟩
       case measure => simp [intOf]; omega
    ·have hkm : k = m := by omega
     subst hkm
     have hbr : Hid (balRun (List.replicate v.ns 0) (p.threads.getD i []) = some h) := xH1 (by
      have := hrun.out.1; rw [HM.out, List.take_length] at this; exact this)
     have hlen := hrun.out.2.1
     rcases Bool.eq_false_or_eq_true (h.any (fun x => !(decide (x = 0)))) with ha | ha
     ·have HB : Hid (isBalanced p = false) := xH1 (bal_bad (i := i) (by have := lt.out; omega) (by
       unfold balThread
       rw [ls.out, hbr.out]
       show h.all (fun x => decide (x = 0)) = false
       rw [any_not_all] at ha
       simpa using ha))
      go_wp2_with fail
      refine (containsInt_any 64 #[] (fun x => !(decide (x = 0))) _ v.ns v.ns h _ (enters_of Try.func64 (by kernel_rfl) rfl) hlen (by unfold maxLen; omega) (Rd.of_owns hown) (fun x => nonZero_any x _)).mono ?_
      rintro e w3 ⟨rfl, rfl⟩
      rw [ha]
      go_wp2
      go_ret
      exact ⟨ret_bool (by rw [HB.out]), B3⟩
     ·have HG : Hid (balThread p.sems.length (p.threads.getD i []) = true) := xH1 (by
       unfold balThread
       rw [ls.out, hbr.out]
       show h.all (fun x => decide (x = 0)) = true
       rw [any_not_all] at ha
       simpa using ha)
      go_wp2_with fail
      refine (containsInt_any 64 #[] (fun x => !(decide (x = 0))) _ v.ns v.ns h _ (enters_of Try.func64 (by kernel_rfl) rfl) hlen (by unfold maxLen; omega) (Rd.of_owns hown) (fun x => nonZero_any x _)).mono ?_
      rintro e w3 ⟨rfl, rfl⟩
      rw [ha]
      go_wp2
      go_roundw
      case rel => exact ⟨i + 1, by omega, by go_num, xH1 (fun j hj => by
       rcases Nat.lt_or_ge j i with h | h
       ·exact hall.out j h
       ·have : j = i := by omega
        subst this
        exact HG.out), BW⟩
      case measure => simp [intOf]; omega
  ·have hkm : i = v.nt := by omega
   subst hkm
   have HB : Hid (isBalanced p = true) := xH1 (bal_good HV.out (by rw [lt.out]; exact hall.out))
   go_wp2
   go_ret
   exact ⟨ret_bool (by rw [HB.out]), B2⟩
end Go.Proofs.Ytoeockmkhpehbaa
