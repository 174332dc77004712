/- Part of a proof: MSemS Fr MPart Sf NewB MRegT Rc. -/
import Derived.Deep.Cut
import Derived.BigQuiet
import Derived.Lib.QuietBelow
import Derived.Test.YtfpgijihiifogaaQPState
set_option maxRecDepth 100000
set_option maxHeartbeats 16000000
namespace Go.Proofs.Ytfpgijihiifogaa
open Go.RowKit
def findI : List Int → Int → Int
 | [], _ => -1
 | x :: l, t => if x = t then 0 else if findI l t < 0 then -1 else findI l t + 1
theorem findI_at {t : Int} : ∀ {l : List Int} {k : Nat}, k < l.length → l.getD k 0 = t → (∀ j, j < k → l.getD j 0 ≠ t) → findI l t = k
 | [], _, h, _, _ => by simp at h
 | x :: l, 0, _, h, _ => by
  have h' : x = t := by simpa using h
  unfold findI
  rw [if_pos h']; rfl
 | x :: l, k + 1, hk, h, hj => by
  have h0 : x ≠ t := by simpa using hj 0 (by omega)
  have := findI_at (l := l) (k := k) (by simpa using hk) (by simpa using h) (fun j hjk => by simpa using hj (j + 1) (by omega))
  unfold findI
  rw [if_neg h0, this, if_neg (by omega)]; omega
theorem findI_no {t : Int} : ∀ {l : List Int}, (∀ j, j < l.length → l.getD j 0 ≠ t) → findI l t = -1
 | [], _ => rfl
 | x :: l, h => by
  have h0 : x ≠ t := by simpa using h 0 (by simp)
  have := findI_no (l := l) (fun j hj => by simpa using h (j + 1) (by simpa using hj))
  unfold findI
  rw [if_neg h0, this, if_pos (by omega)]
theorem findI_not {l : List Int} {t : Int} (h : t ∉ l) : findI l t = -1 :=
 findI_no fun j hj e => h (by rw [← e, List.getD_eq_getElem?_getD, List.getElem?_eq_getElem hj]; exact List.getElem_mem hj)
theorem findI_mem : ∀ {l : List Int} {t : Int}, t ∈ l → 0 ≤ findI l t ∧ l.getD (findI l t).toNat 0 = t
 | [], _, h => by simp at h
 | x :: l, t, h => by
  unfold findI
  by_cases hx : x = t
  ·rw [if_pos hx]; simp [hx]
  ·have h' : t ∈ l := by
    rcases List.mem_cons.1 h with e | e
    ·exact absurd e.symm hx
    ·exact e
   have ⟨h0, h1⟩ := findI_mem h'
   rw [if_neg hx, if_neg (by omega)]
   refine ⟨by omega, ?_⟩
   rw [show (findI l t + 1).toNat = (findI l t).toNat + 1 by omega]
   simpa using h1
theorem getD_fst (l : List (Int × Int)) (j : Nat) : (l.map (·.1)).getD j 0 = (l.getD j (0, 0)).1 := by
 simp only [List.getD_eq_getElem?_getD, List.getElem?_map]
 cases l[j]? <;> rfl
theorem getD_memp {α : Type} {l : List α} {j : Nat} {d : α} (h : j < l.length) : l.getD j d ∈ l := by
 rw [List.getD_eq_getElem?_getD, List.getElem?_eq_getElem h]; exact List.getElem_mem h
theorem nodup_getD {l : List Int} (h : l.Nodup) {i k : Nat} (hi : i < l.length) (hk : k < i) : l.getD k 0 ≠ l.getD i 0 := by
 intro e
 rw [List.getD_eq_getElem?_getD, List.getD_eq_getElem?_getD, List.getElem?_eq_getElem hi, List.getElem?_eq_getElem (by omega)] at e
 have := (List.getElem_inj h).1 (by simpa using e)
 omega
theorem pairs_one (l : List (Int × Int)) : ∀ u ∈ pairs l, u.oneCell' = true := by
 intro u hu
 obtain ⟨x, _, hx⟩ := List.mem_flatMap.1 hu
 simp only [pair, List.mem_cons, List.not_mem_nil, or_false] at hx
 rcases hx with rfl | rfl <;> rfl
theorem pairs_len (l : List (Int × Int)) : (pairs l).length = l.length * 2 := flat_len pair_len l
theorem info_way : (Try.prog.info? 132).map (fun i => (i.zero, i.size, i.bytes)) = some (some (.agg #[.int .i64 0, .int .i64 0]), 2, 16) := by kernel_rfl
theorem ret_i64' {a b : Int} (h : a = b) : Ending.returned (.int .i64 a) = .returned (.int .i64 b) := by rw [h]
theorem specThread_ok (t : Int) (w : World) (h : 0 ≤ t ∧ t < 6) : Calls Try.prog 69 #[.int .i64 t] w fun e w' => e = .returned (.bool true) ∧ w' = w := by
 have d1 : decide (0 ≤ t) = true := decide_eq_true h.1
 have d2 : decide (t < 6) = true := decide_eq_true h.2
 go_enter Try.func69, Try.ntmps69
 go_wp2
 go_ret
 exact ⟨rfl, rfl⟩
theorem specFind_any (a : Option Addr) (n c : Nat) (l : List (Int × Int)) (t : Int) (w : World) (hl : l.length = n) (hn : n ≤ maxLen) (hr : Rd w a (pairs l)) :
  Calls Try.prog 70 #[.slice a n c, .int .i64 t] w fun e w' => e = .returned (.int .i64 (findI (l.map (·.1)) t)) ∧ w' = w := by
 unfold maxLen at hn
 have HL := xH1 hl
 clear hl
 go_enter Try.func70, Try.ntmps70
 go_wp2
 go_loopw [5] (fun i wr => ∃ k : Nat, k ≤ n ∧ i = .int .i64 k ∧ Hid (∀ j, j < k → (l.getD j (0, 0)).1 ≠ t) ∧ wr = w) (fun i _ => n - (intOf i).toNat)
 case atStart => exact ⟨0, by omega, rfl, xH1 (by omega), rfl⟩
 case round =>
  obtain ⟨k, hk, rfl, hall, rfl⟩ := hrel
  by_cases hlt : k < n
  ·obtain ⟨b, o, rfl, hc⟩ := hr.pair (by have := HL.out; omega)
   obtain ⟨g, -⟩ := hc k (by have := HL.out; omega)
   obtain ⟨x, hx⟩ : ∃ x, x = (l.getD k (0, 0)).1 := ⟨_, rfl⟩
   rw [← hx] at g
   have HX := xH1 hx
   clear hc hx
   by_cases e : x = t
   ·have t1 : (x == t) = true := by simpa using e
    have HF : Hid (findI (l.map (·.1)) t = k) := xH1 (findI_at (by have := HL.out; simp; omega) (by rw [getD_fst, ← HX.out]; exact e) (fun j hj => by rw [getD_fst]; exact hall.out j hj))
    clear e
    go_wp2
    go_ret
    exact ⟨ret_i64' HF.out.symm, rfl⟩
   ·have t1 : (x == t) = false := by simpa using e
    have HE := xH1 e
    clear e
    go_wp2
    go_roundw
    case rel => exact ⟨k + 1, by omega, by go_num, xH1 (fun j hj => by
      rcases Nat.lt_or_ge j k with h | h
      ·exact hall.out j h
      ·have : j = k := by omega
       subst this
       rw [← HX.out]; exact HE.out), trivial⟩
    case measure => simp [intOf]; omega
  ·have hkm : k = n := by omega
   subst hkm
   have HF : Hid (findI (l.map (·.1)) t = -1) := xH1 (findI_no (fun j hj => by rw [getD_fst]; exact hall.out j (by have := HL.out; simp at hj; omega)))
   go_wp2
   go_ret
   exact ⟨ret_i64' HF.out.symm, rfl⟩
theorem specSemCopy_any (x : SemD) (a : Option Addr) (n c : Nat) (w : World) (hl : x.queue.length = n) (hn : n ≤ 1048576) (hr : Rd w a (pairs x.queue)) :
  Calls Try.prog 57 #[.agg #[.int .i64 x.free, .int .i64 x.limit, .slice a n c]] w fun e w' => ∃ (a' : Option Addr) (c' : Nat), e = .returned (.agg #[.int .i64 x.free, .int .i64 x.limit, .slice a' n c']) ∧ w'.ownsRow w.heap.size 132 2 (.slice a' n c') n (pairs x.queue) ∧ Below w.heap.size w w' := by
 obtain ⟨f, lim, q⟩ := x
 dsimp only at *
 have HL := xH1 hl
 clear hl
 obtain ⟨W0, hW0⟩ : ∃ W0 : World, W0 = (w.alloc (.cells #[.int .i64 f, .int .i64 lim, .slice a n c] 79)).alloc (.cells #[.int .i64 0, .int .i64 0, .slice none 0 0] 79) := ⟨_, rfl⟩
 have B0 : Below w.heap.size w W0 := by
  rw [hW0]
  exact (xA1).alloc (by simp) _
 have k0 : Blk W0 w.heap.size #[.int .i64 f, .int .i64 lim, .slice a n c] 79 := by
  rw [hW0]; exact (Blk.new _ _ _).alloc _
 have kR : Blk W0 (w.heap.size + 1) #[.int .i64 0, .int .i64 0, .slice none 0 0] 79 := by
  rw [hW0]; simpa using Blk.new (w.alloc (.cells #[.int .i64 f, .int .i64 lim, .slice a n c] 79)) #[.int .i64 0, .int .i64 0, .slice none 0 0] 79
 have q0 : W0.cell? ⟨w.heap.size, 0, none⟩ = some (.int .i64 f) := k0.cell 0 rfl
 have q1 : W0.cell? ⟨w.heap.size, 1, none⟩ = some (.int .i64 lim) := k0.cell 1 rfl
 have q2 : W0.cell? ⟨w.heap.size, 2, none⟩ = some (.slice a n c) := k0.cell 2 rfl
 have HB0 := xH1 B0
 have HR0 := xH1 (hr.below B0)
 have hS0 : W0.heap.size = w.heap.size + 2 := by rw [hW0]; simp
 have HKR := xH1 kR
 clear B0 k0 kR hr
 go_enter Try.func57, Try.ntmps57
 go_wp2
 rw [← hW0] at *
 clear hW0
 refine wp_region_fresh 9 (by kernel_rfl) (by kernel_rfl) [fun dz uz wz => uz = .pointer (some ⟨w.heap.size, 0, none⟩), fun dz uz wz => uz = .int .i64 f, fun dz uz wz => uz = .pointer (some ⟨w.heap.size, 1, none⟩), fun dz uz wz => uz = .int .i64 lim, fun dz uz wz => ∃ gz : Nat, uz = .slice (some ⟨gz, 0, none⟩) 0 0 ∧ wz.ownsRow W0.heap.size 132 2 (.slice (some ⟨gz, 0, none⟩) 0 0) 0 [], fun dz uz wz => uz = .pointer (some ⟨w.heap.size, 2, none⟩), fun dz uz wz => uz = .slice a n c, fun dz uz wz => ∃ (az : Option Addr) (cz : Nat), uz = .slice az n cz ∧ wz.ownsRow W0.heap.size 132 2 (.slice az n cz) n (pairs q) ∧ (n = 0 → cz = 0), fun dz uz wz => uz = (.agg #[(dz.getD 0 undef), (dz.getD 1 undef), (dz.getD 2 undef)] : Value)] (fun i => match i with | _ => fun _ => none) (fun w' => Below W0.heap.size W0 w') xB1.drew (stab_of ⟨fun _ _ _ _ _ h => h, fun _ _ _ _ _ h => h, fun _ _ _ _ _ h => h, fun _ _ _ _ _ h => h, fun _ _ _ _ hb ⟨g, e, h⟩ => ⟨g, e, owns_below h hb⟩, fun _ _ _ _ _ h => h, fun _ _ _ _ _ h => h, fun _ _ _ _ hb ⟨a, c, e, h, h0⟩ => ⟨a, c, e, owns_below h hb, h0⟩, fun _ _ _ _ _ h => h, trivial⟩) ?_ ?_
 ·simp only [List.take_succ_cons, List.take_zero]
  refine ⟨?_, ?_, ?_, ?_, ?_, ?_, ?_, ?_, ?_, trivial⟩
  ·intro ρ w1 hG hfr hd
   obtain ⟨fc, ff⟩ := xF1 hfr
   have f1 : ρ (.tmp 1) = .pointer (some ⟨w.heap.size, 0, none⟩) := hfr _ rfl
   refine gives_val (u := .pointer (some ⟨w.heap.size, 0, none⟩)) (w' := w1) (by go_simp) ⟨Below.refl _ _, rfl, xN1, hG⟩
  ·intro ρ w1 hG hfr hd
   obtain ⟨fc, ff⟩ := xF1 hfr
   obtain ⟨d0, -⟩ := hd
   have d0 : (ρ (.tmp 3)) = .pointer (some ⟨w.heap.size, 0, none⟩) := d0
   have q0 := keepc hG q0
   refine gives_val (u := .int .i64 f) (w' := w1) (by go_simp) ⟨Below.refl _ _, rfl, xN1, hG⟩
  ·intro ρ w1 hG hfr hd
   obtain ⟨fc, ff⟩ := xF1 hfr
   have f1 : ρ (.tmp 1) = .pointer (some ⟨w.heap.size, 0, none⟩) := hfr _ rfl
   refine gives_val (u := .pointer (some ⟨w.heap.size, 1, none⟩)) (w' := w1) (by go_simp) ⟨Below.refl _ _, rfl, xN1, hG⟩
  ·intro ρ w1 hG hfr hd
   obtain ⟨fc, ff⟩ := xF1 hfr
   obtain ⟨d0, -⟩ := hd
   have d0 : (ρ (.tmp 5)) = .pointer (some ⟨w.heap.size, 1, none⟩) := d0
   have q1 := keepc hG q1
   refine gives_val (u := .int .i64 lim) (w' := w1) (by go_simp) ⟨Below.refl _ _, rfl, xN1, hG⟩
  ·intro ρ w1 hG hfr hd
   obtain ⟨fc, ff⟩ := xF1 hfr
   refine gives_val (u := .slice (some ⟨w1.heap.size, 0, none⟩) 0 0) (w' := w1.alloc (.cells #[] 132)) (by go_simp) ⟨xA1, ⟨_, rfl, owns_mono (owns_empty w1 132 2) hG.size⟩, xN1, hG.alloc hG.size _⟩
  ·intro ρ w1 hG hfr hd
   obtain ⟨fc, ff⟩ := xF1 hfr
   have f1 : ρ (.tmp 1) = .pointer (some ⟨w.heap.size, 0, none⟩) := hfr _ rfl
   refine gives_val (u := .pointer (some ⟨w.heap.size, 2, none⟩)) (w' := w1) (by go_simp) ⟨Below.refl _ _, rfl, xN1, hG⟩
  ·intro ρ w1 hG hfr hd
   obtain ⟨fc, ff⟩ := xF1 hfr
   obtain ⟨d0, -⟩ := hd
   have d0 : (ρ (.tmp 8)) = .pointer (some ⟨w.heap.size, 2, none⟩) := d0
   have q2 := keepc hG q2
   refine gives_val (u := .slice a n c) (w' := w1) (by go_simp) ⟨Below.refl _ _, rfl, xN1, hG⟩
  ·intro ρ w1 hG hfr hd
   obtain ⟨fc, ff⟩ := xF1 hfr
   obtain ⟨d0, d1, -⟩ := hd
   have d0 : ∃ gz : Nat, (ρ (.tmp 7)) = .slice (some ⟨gz, 0, none⟩) 0 0 ∧ w1.ownsRow W0.heap.size 132 2 (.slice (some ⟨gz, 0, none⟩) 0 0) 0 [] := d0
   have d1 : (ρ (.tmp 9)) = .slice a n c := d1
   obtain ⟨g, d0, hg⟩ := d0
   refine gives_append_new _ _ 77 rfl Try.underlying77 info_way rfl (by decide) d0 hg d1 (by rw [pairs_len, HL.out]) (HR0.out.below hG) (pairs_one _) (by omega) (by decide) hG.size ?_
   intro a c w2 hown hb hf h0
   exact ⟨hb, ⟨a, c, rfl, hown, h0⟩, xN1, hG.trans (hb.mono hG.size)⟩
  ·intro ρ w1 hG hfr hd
   obtain ⟨fc, ff⟩ := xF1 hfr
   obtain ⟨d0, d1, d2, -⟩ := hd
   have d0 : (ρ (.tmp 4)) = .int .i64 f := d0
   have d1 : (ρ (.tmp 6)) = .int .i64 lim := d1
   have d2 : ∃ (az : Option Addr) (cz : Nat), (ρ (.tmp 10)) = .slice az n cz ∧ w1.ownsRow W0.heap.size 132 2 (.slice az n cz) n (pairs q) ∧ (n = 0 → cz = 0) := d2
   obtain ⟨azz, czz, d2, -, -⟩ := d2
   refine gives_val (u := .agg #[.int .i64 f, .int .i64 lim, .slice azz n czz]) (w' := w1) (by go_simp) ⟨Below.refl _ _, ?_, xN1, hG⟩
   show Value.agg #[.int .i64 f, .int .i64 lim, .slice azz n czz] = (.agg #[(ρ (.tmp 4)), (ρ (.tmp 6)), (ρ (.tmp 10))] : Value)
   rw [d0, d1, d2]
 intro vs w2 hG hlen hall hap hbd
 obtain ⟨xv0, vs0, rfl, hl0⟩ := len_cons hlen
 obtain ⟨xv1, vs1, rfl, hl1⟩ := len_cons hl0
 obtain ⟨xv2, vs2, rfl, hl2⟩ := len_cons hl1
 obtain ⟨xv3, vs3, rfl, hl3⟩ := len_cons hl2
 obtain ⟨xv4, vs4, rfl, hl4⟩ := len_cons hl3
 obtain ⟨xv5, vs5, rfl, hl5⟩ := len_cons hl4
 obtain ⟨xv6, vs6, rfl, hl6⟩ := len_cons hl5
 obtain ⟨xv7, vs7, rfl, hl7⟩ := len_cons hl6
 obtain ⟨xv8, vs8, rfl, hl8⟩ := len_cons hl7
 obtain rfl := len_nil hl8
 clear hlen hl0 hl1 hl2 hl3 hl4 hl5 hl6 hl7 hl8
 simp only [List.take_succ_cons, List.take_zero, List.drop_succ_cons, List.drop_zero] at hall ⊢
 obtain ⟨t0', t1', t2', t3', t4', t5', t6', t7', t8', -⟩ := hall
 have hv0 : xv0 = .pointer (some ⟨w.heap.size, 0, none⟩) := t0'
 have hv1 : xv1 = .int .i64 f := t1'
 have hv2 : xv2 = .pointer (some ⟨w.heap.size, 1, none⟩) := t2'
 have hv3 : xv3 = .int .i64 lim := t3'
 have hv4 : ∃ gz : Nat, xv4 = .slice (some ⟨gz, 0, none⟩) 0 0 ∧ w2.ownsRow W0.heap.size 132 2 (.slice (some ⟨gz, 0, none⟩) 0 0) 0 [] := t4'
 have hv5 : xv5 = .pointer (some ⟨w.heap.size, 2, none⟩) := t5'
 have hv6 : xv6 = .slice a n c := t6'
 have hv7 : ∃ (az : Option Addr) (cz : Nat), xv7 = .slice az n cz ∧ w2.ownsRow W0.heap.size 132 2 (.slice az n cz) n (pairs q) ∧ (n = 0 → cz = 0) := t7'
 have hv8 : xv8 = (.agg #[xv1, xv3, xv7] : Value) := t8'
 clear t0' t1' t2' t3' t4' t5' t6' t7' t8'
 clear hap hbd
 subst hv0 hv1 hv2 hv3 hv5 hv6
 obtain ⟨a', c', rfl, hown, -⟩ := hv7
 simp only [putAll, Act.put, List.setIfInBounds_toArray, List.set_cons_succ, List.set_cons_zero]
 have kR2 := HKR.out.below hG
 have y0 := kR2.cell 0 rfl
 have x0 := kR2.fz 0
 have y1 := kR2.cell 1 rfl
 have x1 := kR2.fz 1
 have y2 := kR2.cell 2 rfl
 have x2 := kR2.fz 2
 clear kR2
 go_wp2
 have hrow : ∀ q, rowOf a' = some q → q ∉ [w.heap.size + 1] := fun q hq hm => by
  have h1 := (owns_row hown q hq).1
  simp only [List.mem_singleton] at hm
  omega
 have hT := ((Touch.refl [w.heap.size + 1] w2).set (v := .int .i64 f) (j := 0) (List.mem_singleton.2 rfl)).set (v := .int .i64 lim) (j := 1) (List.mem_singleton.2 rfl) |>.set (v := .slice a' n c') (j := 2) (List.mem_singleton.2 rfl)
 have hBz := hT.below (B := w.heap.size) (by have := hG.size; omega) (fun k hk => by simp only [List.mem_singleton] at hk; omega)
 refine bodyPost_ret (v := .agg #[.int .i64 f, .int .i64 lim, .slice a' n c']) (by simp [results, Try.results57, go_sem, y0, y1, y2]) rfl ⟨a', c', rfl, owns_mono (owns_touch hown hT hrow) (by omega), (HB0.out.trans (hG.mono HB0.out.size)).trans hBz⟩
theorem specSemValid_ok (x : SemD) (a : Option Addr) (n c : Nat) (w : World) (hl : x.queue.length = n) (hr : Rd w a (pairs x.queue)) (ok : semOk x) :
  Calls Try.prog 68 #[.agg #[.int .i64 x.free, .int .i64 x.limit, .slice a n c]] w fun e w' => e = .returned (.bool true) ∧ Below w.heap.size w w' := by
 obtain ⟨f, lim, q⟩ := x
 obtain ⟨⟨l1, l2⟩, ⟨f1, f2⟩, hc, ht, hf⟩ := ok
 dsimp only at *
 have h6 : n ≤ 6 := by rw [← hl]; simpa using ht.1
 have d1 : decide (lim < 1) = false := decide_eq_false (by omega)
 have d2 : decide (9 < lim) = false := decide_eq_false (by omega)
 have d3 : decide (f < 0) = false := decide_eq_false (by omega)
 have d4 : decide (lim < f) = false := decide_eq_false (by omega)
 have d5 : decide (6 < (n : Int)) = false := decide_eq_false (by omega)
 have HL := xH1 hl
 have HC := xH1 hc
 have HT := xH1 ht
 have HF := xH1 hf
 clear hl hc ht hf l1 l2 f1 f2
 have B0 : Below w.heap.size w (w.alloc (.cells #[.int .i64 f, .int .i64 lim, .slice a n c] 79)) := xA1
 have k0 : Blk (w.alloc (.cells #[.int .i64 f, .int .i64 lim, .slice a n c] 79)) w.heap.size #[.int .i64 f, .int .i64 lim, .slice a n c] 79 := Blk.new _ _ _
 have q0 : (w.alloc (.cells #[.int .i64 f, .int .i64 lim, .slice a n c] 79)).cell? ⟨w.heap.size, 0, none⟩ = some (.int .i64 f) := k0.cell 0 rfl
 have q1 : (w.alloc (.cells #[.int .i64 f, .int .i64 lim, .slice a n c] 79)).cell? ⟨w.heap.size, 1, none⟩ = some (.int .i64 lim) := k0.cell 1 rfl
 have q2 : (w.alloc (.cells #[.int .i64 f, .int .i64 lim, .slice a n c] 79)).cell? ⟨w.heap.size, 2, none⟩ = some (.slice a n c) := k0.cell 2 rfl
 clear k0
 have hr0 := hr.below B0
 clear hr
 go_enter Try.func68, Try.ntmps68
 go_wp2
 obtain ⟨W0, hW0⟩ : ∃ W0 : World, W0 = (w.alloc (.cells #[.int .i64 f, .int .i64 lim, .slice a n c] 79)) := ⟨_, rfl⟩
 rw [← hW0] at B0 hr0 q0 q1 q2 ⊢
 clear hW0
 go_loopw [3] (fun v wr => ∃ i : Nat, i ≤ n ∧ v = .int .i64 i ∧ Below W0.heap.size W0 wr) (fun v _ => n - (intOf v).toNat)
 case atStart => exact ⟨0, by omega, rfl, Below.refl _ _⟩
 case round =>
  obtain ⟨i, hi, rfl, hb⟩ := hrel
  have c0 := keepc hb q0
  have c1 := keepc hb q1
  have c2 := keepc hb q2
  have hr1 := hr0.below hb
  by_cases hlt : i < n
  ·obtain ⟨b, o, rfl, g'⟩ := hr1.pair (by have := HL.out; omega)
   obtain ⟨g1, g2⟩ := g' i (by have := HL.out; omega)
   obtain ⟨t, et⟩ : ∃ t, t = (q.getD i (0, 0)).1 := ⟨_, rfl⟩
   obtain ⟨m, em⟩ : ∃ m, m = (q.getD i (0, 0)).2 := ⟨_, rfl⟩
   rw [← et] at g1
   rw [← em] at g2
   have hm : 1 ≤ m ∧ m ≤ lim := by rw [em]; exact HC.out _ (getD_memp (by have := HL.out; omega))
   have htt : 0 ≤ t ∧ t < 6 := by rw [et, ← getD_fst]; exact HT.out.2.1 _ (getD_memp (by have := HL.out; simp; omega))
   have e1 : decide (m < 1) = false := decide_eq_false (by omega)
   have e2 : decide (lim < m) = false := decide_eq_false (by omega)
   have HNE : Hid (∀ k, k < i → (q.getD k (0, 0)).1 ≠ t) := xH1 (fun k hk => by
    have := nodup_getD HT.out.2.2 (i := i) (k := k) (by have := HL.out; simp; omega) hk
    rw [getD_fst, getD_fst, ← et] at this; exact this)
   have HTT := xH1 htt
   have HG := xH1 g'
   have bA : Below wr.heap.size wr (wr.alloc (.cells #[.int .i64 t, .int .i64 m] 132)) := xA1
   have kA : Blk (wr.alloc (.cells #[.int .i64 t, .int .i64 m] 132)) wr.heap.size #[.int .i64 t, .int .i64 m] 132 := Blk.new _ _ _
   have a0 := kA.cell 0 rfl
   have a1 := kA.cell 1 rfl
   have c1' := keepc bA c1
   have c2' := keepc bA c2
   have hb2 := hb.trans (bA.mono hb.size)
   have hr2 := hr1.below bA
   clear kA bA et em hm htt g'
   go_wp2_with fail
   refine (specThread_ok t _ HTT.out).mono ?_
   rintro e w3 ⟨rfl, hw3⟩
   have hw3' := hw3.symm
   subst hw3'
   go_wp2
   obtain ⟨WI, hWI⟩ : ∃ WI : World, WI = (wr.alloc (.cells #[.int .i64 t, .int .i64 m] 132)) := ⟨_, rfl⟩
   rw [← hWI] at a0 a1 c1' c2' hb2 hr2 ⊢
   clear hWI
   go_loopw [5] (fun v wk => ∃ j : Nat, j ≤ i ∧ v = .int .i64 j ∧ Below WI.heap.size WI wk) (fun v _ => i - (intOf v).toNat)
   case atStart => exact ⟨0, by omega, rfl, Below.refl _ _⟩
   case round =>
    obtain ⟨j, hj, rfl, hbj⟩ := hrel
    have f0 := keepc hbj a0
    have f2 := keepc hbj c2'
    by_cases hjl : j < i
    ·obtain ⟨b', o', eb, h'⟩ := (hr2.below hbj).pair (by have := HL.out; omega)
     obtain ⟨rfl, rfl⟩ : _ ∧ _ := by simpa using eb
     obtain ⟨u1, u2⟩ := h' j (by have := HL.out; omega)
     obtain ⟨t2, et2⟩ : ∃ t2, t2 = (q.getD j (0, 0)).1 := ⟨_, rfl⟩
     rw [← et2] at u1
     have t1 : (t2 == t) = false := by rw [et2]; simpa using HNE.out j hjl
     have j1 : (j : Int) < (n : Int) := by omega
     clear h' et2 eb u2
     go_wp2
     go_quiet (fail)
     go_wp2
     go_roundw
     case rel => exact ⟨j + 1, by omega, by go_num, below_drewN hbj _⟩
     case measure => simp [intOf]; omega
    ·have hji : j = i := by omega
     subst hji
     go_wp2
     go_roundw
     case rel => exact ⟨j + 1, by omega, by go_num, hb2.trans (hbj.mono hb2.size)⟩
     case measure => simp [intOf]; omega
  ·have hkm : i = n := by omega
   subst hkm
   by_cases h0 : i = 0
   ·subst h0
    go_wp2
    go_quiet (fail)
    go_wp2
    go_ret
    exact ⟨rfl, below_drewN (B0.trans (hb.mono B0.size)) _⟩
   ·obtain ⟨b, o, rfl, g'⟩ := hr1.pair (by have := HL.out; omega)
    obtain ⟨g1, g2⟩ := g' 0 (by have := HL.out; omega)
    have hq : f < (q.getD 0 (0, 0)).2 := by
     cases hqq : q with
     | nil => exact absurd HL.out (by rw [hqq]; simpa using fun h => h0 h.symm)
     | cons x y => exact HF.out x y hqq
    obtain ⟨m, em⟩ : ∃ m, m = (q.getD 0 (0, 0)).2 := ⟨_, rfl⟩
    rw [← em] at g2 hq
    rw [show o + 0 * 2 + 1 = o + 1 by omega] at g2
    have t0 : ((i : Int) == 0) = false := by simp; omega
    have t1 : decide (f < m) = true := decide_eq_true hq
    have j1 : (0 : Int) < (i : Int) := by omega
    clear g' g1 em hq
    go_wp2
    go_quiet (fail)
    go_wp2
    go_ret
    exact ⟨rfl, below_drewN (B0.trans (hb.mono B0.size)) _⟩
inductive It where
 | blk (b : Nat) (cs : Array Value) (T : TypeId)
 | row (a : Option Addr) (n c : Nat) (E : TypeId) (sz : Nat) (cs : List Value)
def It.has (B : Nat) (W : World) : It → Prop
 | .blk b cs T => B ≤ b ∧ Blk W b cs T
 | .row a n c E sz cs => W.ownsRow B E sz (.slice a n c) n cs
def It.foot : It → List Nat
 | .blk b _ _ => [b]
 | .row a _ _ _ _ _ => (rowOf a).toList
theorem It.inside {B : Nat} {W : World} : ∀ {i : It}, i.has B W → ∀ k ∈ i.foot, B ≤ k ∧ k < W.heap.size
 | .blk b cs T, h, k, hk => by obtain rfl := xS1 hk; exact ⟨h.1, h.2.lt⟩
 | .row a n c E sz cs, h, k, hk => owns_row h k (by simpa [It.foot] using hk)
theorem It.keep {B : Nat} {W W' : World} : ∀ {i : It}, i.has B W → (∀ k ∈ i.foot, W'.heap[k]? = W.heap[k]?) → i.has B W'
 | .blk b cs T, h, hk => ⟨h.1, (hk b (List.mem_singleton.2 rfl)).trans h.2⟩
 | .row a n c E sz cs, h, hk => owns_keep h fun k hk' _ => hk k (by rw [ownBlock_slice] at hk'; simpa [It.foot] using hk')
theorem It.foot_nodup : ∀ i : It, i.foot.Nodup
 | .blk _ _ _ => by simp [It.foot]
 | .row a _ _ _ _ _ => by cases h : rowOf a <;> simp [It.foot, h]
def foots (l : List It) : List Nat := l.flatMap It.foot
structure Fr (w W : World) (l : List It) : Prop where
 bel : Below w.heap.size w W
 has : ∀ i ∈ l, i.has w.heap.size W
 ap : (foots l).Nodup
theorem ints_app (a b : List Int) : ints (a ++ b) = ints a ++ ints b := List.map_append
theorem pairs_app (a b : List (Int × Int)) : pairs (a ++ b) = pairs a ++ pairs b := List.flatMap_append
namespace Fr
variable {w W W' : World} {l : List It}
theorem named (F : Fr w W l) : ∃ x, x = W ∧ Fr w x l := ⟨W, rfl, F⟩
theorem start (w : World) : Fr w w [] := ⟨Below.refl _ _, by simp, by simp [foots]⟩
theorem inside (F : Fr w W l) : ∀ k ∈ foots l, w.heap.size ≤ k ∧ k < W.heap.size := by
 intro k hk
 obtain ⟨i, hi, hki⟩ := List.mem_flatMap.1 hk
 exact It.inside (F.has i hi) k hki
theorem call (F : Fr w W l) (hb : Below W.heap.size W W') : Fr w W' l :=
 ⟨F.bel.trans (hb.mono F.bel.size), fun i hi => It.keep (F.has i hi) fun k hk => hb.block k (It.inside (F.has i hi) k hk).2, F.ap⟩
theorem more (F : Fr w W l) (hb : Below W.heap.size W W') {i : It} (hi : i.has W.heap.size W') : Fr w W' (i :: l) := by
 have F' := F.call hb
 refine ⟨F'.bel, fun j hj => ?_, ?_⟩
 ·rcases List.mem_cons.1 hj with rfl | hj
  ·cases j with
   | blk b cs T => exact ⟨Nat.le_trans F.bel.size hi.1, hi.2⟩
   | row a n c E sz cs => exact owns_mono hi F.bel.size
  ·exact F'.has j hj
 ·show (i.foot ++ foots l).Nodup
  refine List.nodup_append.2 ⟨i.foot_nodup, F.ap, fun a ha b hb' e => ?_⟩
  have h1 := (It.inside hi a ha).1
  have h2 := (F.inside b hb').2
  omega
theorem alloc (F : Fr w W l) (cs : Array Value) (T : TypeId) : Fr w (W.alloc (.cells cs T)) (.blk W.heap.size cs T :: l) :=
 F.more (xA1) ⟨Nat.le_refl _, Blk.new _ _ _⟩
theorem join {w0 : World} {l' : List It} (F : Fr w0 w l') (F' : Fr w W l) : Fr w0 W (l ++ l') := by
 refine ⟨F.bel.trans (F'.bel.mono F.bel.size), fun i hi => ?_, ?_⟩
 ·rcases xP1 hi with hi | hi
  ·have h := F'.has i hi
   cases i with
   | blk b cs T => exact ⟨Nat.le_trans F.bel.size h.1, h.2⟩
   | row a n c E sz cs => exact owns_mono h F.bel.size
  ·exact (F.call F'.bel).has i hi
 ·unfold foots
  rw [List.flatMap_append]
  refine List.nodup_append.2 ⟨F'.ap, F.ap, fun a ha b hb e => ?_⟩
  have h1 := (F'.inside a ha).1
  have h2 := (F.inside b hb).2
  omega
theorem row (F : Fr w W l) (hb : Below W.heap.size W W') {a : Option Addr} {n c sz : Nat} {E : TypeId} {cs : List Value} (h : W'.ownsRow W.heap.size E sz (.slice a n c) n cs) : Fr w W' (.row a n c E sz cs :: l) := F.more hb h
theorem nil (F : Fr w W l) (E : TypeId) (sz : Nat) : Fr w W (.row none 0 0 E sz [] :: l) := F.more xB1 (World.ownsRow_nil _ _ _ _)
theorem perm (F : Fr w W l) {l' : List It} (h : l.Perm l') : Fr w W l' := ⟨F.bel, fun i hi => F.has i (h.mem_iff.2 hi), (h.flatMap_right _).nodup_iff.1 F.ap⟩
theorem pull (F : Fr w W l) (k : Nat) {i : It} (hi : l[k]? = some i) : Fr w W (i :: l.eraseIdx k) := by
 obtain ⟨hk, hik⟩ := List.getElem?_eq_some_iff.1 hi
 refine F.perm ?_
 have e0 : l = l.take k ++ i :: l.drop (k + 1) := by rw [← hik, List.getElem_cons_drop, List.take_append_drop]
 rw [List.eraseIdx_eq_take_drop_succ]
 conv => lhs; rw [e0]
 exact List.perm_middle
theorem drew (F : Fr w W l) : Fr w W.drew l := F.call xB1.drew
theorem step (F : Fr w W l) (k : Nat) {i : It} (hi : l[k]? = some i) (T : Touch i.foot W W') {i' : It} (h' : i'.has w.heap.size W') (hf : ∀ q ∈ i'.foot, q ∈ i.foot ∨ W.heap.size ≤ q) : Fr w W' (l.set k i') := by
 obtain ⟨hk, hik⟩ := List.getElem?_eq_some_iff.1 hi
 have e0 : l = l.take k ++ i :: l.drop (k + 1) := by rw [← hik, List.getElem_cons_drop, List.take_append_drop]
 have e1 : l.set k i' = l.take k ++ i' :: l.drop (k + 1) := List.set_eq_take_append_cons_drop.trans (by rw [if_pos hk])
 have ha := F.ap
 rw [e0] at ha
 rw [e1]
 obtain ⟨l1, h1⟩ : ∃ x, x = l.take k := ⟨_, rfl⟩
 obtain ⟨l2, h2⟩ : ∃ x, x = l.drop (k + 1) := ⟨_, rfl⟩
 rw [← h1, ← h2] at e0 ha ⊢
 have hin := F.inside
 have hhas := F.has
 rw [e0] at hin hhas
 simp only [foots, List.flatMap_append, List.flatMap_cons, List.nodup_append, List.mem_append, List.mem_flatMap] at ha hin
 obtain ⟨a1, ⟨ai, a2, a3⟩, a4⟩ := ha
 refine ⟨F.bel.trans (T.below F.bel.size fun q hq => (It.inside (F.has i (List.mem_of_getElem? hi)) q hq).1), ?_, ?_⟩
 ·intro j hj
  rcases xP1 hj with hj | hj
  ·exact It.keep (hhas j (by simp [hj])) fun q hq => T.block q (It.inside (hhas j (by simp [hj])) q hq).2 fun hm => a4 q ⟨j, hj, hq⟩ q (.inl hm) rfl
  ·rcases List.mem_cons.1 hj with rfl | hj
   ·exact h'
   ·exact It.keep (hhas j (by simp [hj])) fun q hq => T.block q (It.inside (hhas j (by simp [hj])) q hq).2 fun hm => a3 q hm q ⟨j, hj, hq⟩ rfl
 ·simp only [foots, List.flatMap_append, List.flatMap_cons, List.nodup_append, List.mem_append, List.mem_flatMap]
  refine ⟨a1, ⟨i'.foot_nodup, a2, fun q hq r hr e => ?_⟩, fun q hq r hr e => ?_⟩
  ·subst e
   rcases hf q hq with h | h
   ·exact a3 q h q hr rfl
   ·have := (hin q (.inr (.inr hr))).2; omega
  ·subst e
   rcases hr with hr | hr
   ·rcases hf q hr with h | h
    ·exact a4 q hq q (.inl h) rfl
    ·have := (hin q (.inl hq)).2; omega
   ·exact a4 q hq q (.inr hr) rfl
theorem set (F : Fr w W l) (k : Nat) {b : Nat} {cs : Array Value} {T : TypeId} (hi : l[k]? = some (.blk b cs T)) (j : Nat) (v : Value) : Fr w (W.setCell ⟨b, j, none⟩ v) (l.set k (.blk b (cs.setIfInBounds j v) T)) := by
 have h := F.has _ (List.mem_of_getElem? hi)
 exact F.step k hi ((Touch.refl _ _).set (List.mem_singleton.2 rfl)) ⟨h.1, h.2.set j v⟩ fun q hq => .inl hq
theorem app (F : Fr w W l) (k : Nat) {a a' : Option Addr} {n c n' c' sz : Nat} {E : TypeId} {cs cs' : List Value} (hi : l[k]? = some (.row a n c E sz cs)) (hg : W.grownBy W' (rowOf a)) (h' : W'.ownsRow w.heap.size E sz (.slice a' n' c') n' cs') (hn : ∀ q, rowOf a' = some q → rowOf a = some q ∨ W.heap.size ≤ q) : Fr w W' (l.set k (.row a' n' c' E sz cs')) :=
 F.step k hi (Touch.of_grown hg fun q hq => by simp [It.foot, hq]) h' fun q hq => (hn q (by simpa [It.foot] using hq)).imp (fun h => by simp [It.foot, h]) id
theorem blk (F : Fr w W l) (k : Nat) {b : Nat} {cs : Array Value} {T : TypeId} (hi : l[k]? = some (.blk b cs T)) : Blk W b cs T := (F.has _ (List.mem_of_getElem? hi)).2
theorem cell (F : Fr w W l) (k j : Nat) {b : Nat} {cs : Array Value} {T : TypeId} {v : Value} (hi : l[k]? = some (.blk b cs T)) (hv : cs[j]? = some v) : W.cell? ⟨b, j, none⟩ = some v := (F.blk k hi).cell j hv
theorem fz (F : Fr w W l) (k j : Nat) {b : Nat} {cs : Array Value} {T : TypeId} (hi : l[k]? = some (.blk b cs T)) : W.frozen? ⟨b, j, none⟩ = false := (F.blk k hi).fz j
theorem own (F : Fr w W l) (k : Nat) {a : Option Addr} {n c sz : Nat} {E : TypeId} {cs : List Value} (hi : l[k]? = some (.row a n c E sz cs)) : W.ownsRow w.heap.size E sz (.slice a n c) n cs := F.has _ (List.mem_of_getElem? hi)
theorem foots_sub : ∀ {l' l : List It}, List.Sublist l' l → List.Sublist (foots l') (foots l)
 | _, _, .slnil => .slnil
 | _, _, .cons i h => (foots_sub h).trans (List.sublist_append_right _ _)
 | _, _, .cons_cons i h => (List.Sublist.refl _).append (foots_sub h)
theorem sub (F : Fr w W l) {l' : List It} (h : List.Sublist l' l) : Fr w W l' := ⟨F.bel, fun i hi => F.has i (h.subset hi), F.ap.sublist (foots_sub h)⟩
theorem ne (F : Fr w W l) (k k' : Nat) {b b' : Nat} {cs cs' : Array Value} {T T' : TypeId} (hi : l[k]? = some (.blk b cs T)) (hi' : l[k']? = some (.blk b' cs' T')) (hk : k < k') : b ≠ b' := by
 intro e
 subst e
 obtain ⟨h1, e1⟩ := List.getElem?_eq_some_iff.1 hi
 obtain ⟨h2, e2⟩ := List.getElem?_eq_some_iff.1 hi'
 have ha := F.ap
 rw [← List.take_append_drop k' l] at ha
 simp only [foots, List.flatMap_append, List.nodup_append, List.mem_flatMap] at ha
 refine ha.2.2 b ⟨.blk b cs T, ?_, List.mem_singleton.2 rfl⟩ b ⟨.blk b cs' T', ?_, List.mem_singleton.2 rfl⟩ rfl
 ·exact List.mem_of_getElem? (i := k) (by rw [List.getElem?_take]; simp [hk, hi])
 ·exact List.mem_of_getElem? (i := 0) (by rw [List.getElem?_drop]; simpa using hi')
theorem c3 (F : Fr w W l) (k : Nat) {b : Nat} {v0 v1 v2 : Value} {T : TypeId} (hi : l[k]? = some (.blk b #[v0, v1, v2] T)) : W.cell? ⟨b, 0, none⟩ = some v0 ∧ W.frozen? ⟨b, 0, none⟩ = false ∧ W.cell? ⟨b, 1, none⟩ = some v1 ∧ W.frozen? ⟨b, 1, none⟩ = false ∧ W.cell? ⟨b, 2, none⟩ = some v2 ∧ W.frozen? ⟨b, 2, none⟩ = false := ⟨F.cell k 0 hi rfl, F.fz k 0 hi, F.cell k 1 hi rfl, F.fz k 1 hi, F.cell k 2 hi rfl, F.fz k 2 hi⟩
theorem c5 (F : Fr w W l) (k : Nat) {b : Nat} {v0 v1 v2 v3 v4 : Value} {T : TypeId} (hi : l[k]? = some (.blk b #[v0, v1, v2, v3, v4] T)) : W.cell? ⟨b, 0, none⟩ = some v0 ∧ W.frozen? ⟨b, 0, none⟩ = false ∧ W.cell? ⟨b, 1, none⟩ = some v1 ∧ W.frozen? ⟨b, 1, none⟩ = false ∧ W.cell? ⟨b, 2, none⟩ = some v2 ∧ W.frozen? ⟨b, 2, none⟩ = false ∧ W.cell? ⟨b, 3, none⟩ = some v3 ∧ W.frozen? ⟨b, 3, none⟩ = false ∧ W.cell? ⟨b, 4, none⟩ = some v4 ∧ W.frozen? ⟨b, 4, none⟩ = false := ⟨F.cell k 0 hi rfl, F.fz k 0 hi, F.cell k 1 hi rfl, F.fz k 1 hi, F.cell k 2 hi rfl, F.fz k 2 hi, F.cell k 3 hi rfl, F.fz k 3 hi, F.cell k 4 hi rfl, F.fz k 4 hi⟩
theorem c9 (F : Fr w W l) (k : Nat) {b : Nat} {v0 v1 v2 v3 v4 v5 v6 v7 v8 : Value} {T : TypeId} (hi : l[k]? = some (.blk b #[v0, v1, v2, v3, v4, v5, v6, v7, v8] T)) : W.cell? ⟨b, 0, none⟩ = some v0 ∧ W.frozen? ⟨b, 0, none⟩ = false ∧ W.cell? ⟨b, 1, none⟩ = some v1 ∧ W.frozen? ⟨b, 1, none⟩ = false ∧ W.cell? ⟨b, 2, none⟩ = some v2 ∧ W.frozen? ⟨b, 2, none⟩ = false ∧ W.cell? ⟨b, 3, none⟩ = some v3 ∧ W.frozen? ⟨b, 3, none⟩ = false ∧ W.cell? ⟨b, 4, none⟩ = some v4 ∧ W.frozen? ⟨b, 4, none⟩ = false ∧ W.cell? ⟨b, 5, none⟩ = some v5 ∧ W.frozen? ⟨b, 5, none⟩ = false ∧ W.cell? ⟨b, 6, none⟩ = some v6 ∧ W.frozen? ⟨b, 6, none⟩ = false ∧ W.cell? ⟨b, 7, none⟩ = some v7 ∧ W.frozen? ⟨b, 7, none⟩ = false ∧ W.cell? ⟨b, 8, none⟩ = some v8 ∧ W.frozen? ⟨b, 8, none⟩ = false := ⟨F.cell k 0 hi rfl, F.fz k 0 hi, F.cell k 1 hi rfl, F.fz k 1 hi, F.cell k 2 hi rfl, F.fz k 2 hi, F.cell k 3 hi rfl, F.fz k 3 hi, F.cell k 4 hi rfl, F.fz k 4 hi, F.cell k 5 hi rfl, F.fz k 5 hi, F.cell k 6 hi rfl, F.fz k 6 hi, F.cell k 7 hi rfl, F.fz k 7 hi, F.cell k 8 hi rfl, F.fz k 8 hi⟩
theorem set5 (F : Fr w W l) (k : Nat) {b : Nat} {u0 u1 u2 u3 u4 : Value} {T : TypeId} (hi : l[k]? = some (.blk b #[u0, u1, u2, u3, u4] T)) (v0 v1 v2 v3 v4 : Value) : Fr w (((((W.setCell ⟨b, 0, none⟩ v0).setCell ⟨b, 1, none⟩ v1).setCell ⟨b, 2, none⟩ v2).setCell ⟨b, 3, none⟩ v3).setCell ⟨b, 4, none⟩ v4) (l.set k (.blk b #[v0, v1, v2, v3, v4] T)) := by
 have h := F.has _ (List.mem_of_getElem? hi)
 exact F.step k hi ((((((Touch.refl _ _).set (List.mem_singleton.2 rfl)).set (List.mem_singleton.2 rfl)).set (List.mem_singleton.2 rfl)).set (List.mem_singleton.2 rfl)).set (List.mem_singleton.2 rfl)) ⟨h.1, (((((h.2.set 0 v0).set 1 v1).set 2 v2).set 3 v3).set 4 v4)⟩ fun q hq => .inl hq
theorem set9 (F : Fr w W l) (k : Nat) {b : Nat} {u0 u1 u2 u3 u4 u5 u6 u7 u8 : Value} {T : TypeId} (hi : l[k]? = some (.blk b #[u0, u1, u2, u3, u4, u5, u6, u7, u8] T)) (v0 v1 v2 v3 v4 v5 v6 v7 v8 : Value) : Fr w (((((((((W.setCell ⟨b, 0, none⟩ v0).setCell ⟨b, 1, none⟩ v1).setCell ⟨b, 2, none⟩ v2).setCell ⟨b, 3, none⟩ v3).setCell ⟨b, 4, none⟩ v4).setCell ⟨b, 5, none⟩ v5).setCell ⟨b, 6, none⟩ v6).setCell ⟨b, 7, none⟩ v7).setCell ⟨b, 8, none⟩ v8) (l.set k (.blk b #[v0, v1, v2, v3, v4, v5, v6, v7, v8] T)) := by
 have h := F.has _ (List.mem_of_getElem? hi)
 exact F.step k hi ((((((((((Touch.refl _ _).set (List.mem_singleton.2 rfl)).set (List.mem_singleton.2 rfl)).set (List.mem_singleton.2 rfl)).set (List.mem_singleton.2 rfl)).set (List.mem_singleton.2 rfl)).set (List.mem_singleton.2 rfl)).set (List.mem_singleton.2 rfl)).set (List.mem_singleton.2 rfl)).set (List.mem_singleton.2 rfl)) ⟨h.1, by have h9 := (((((((((h.2.set 0 v0).set 1 v1).set 2 v2).set 3 v3).set 4 v4).set 5 v5).set 6 v6).set 7 v7).set 8 v8); simpa using h9⟩ fun q hq => .inl hq
theorem rd (F : Fr w W l) {a : Option Addr} {cs : List Value} (h : Rd w a cs) : Rd W a cs := h.below F.bel
theorem rdRow (F : Fr w W l) (k : Nat) {a : Option Addr} {n c sz : Nat} {E : TypeId} {cs : List Value} (hi : l[k]? = some (.row a n c E sz cs)) : Rd W a cs := Rd.of_owns (F.own k hi)
theorem sln (F : Fr w W l) (k : Nat) {a : Option Addr} {n c sz : Nat} {E : TypeId} {cs : List Value} (hi : l[k]? = some (.row a n c E sz cs)) (he : E ∉ structT := by decide) : SlN w W ⟨a, n, c⟩ cs n := SlN.of_owns (F.own k hi) xL1 he
section
variable {P : Program} {ops : Array Oper} {rest : List Oper} {o : Oper} {ac : Act} {Q : Exit → Act → World → Prop}
theorem wpApp (F : Fr w W l) (k : Nat) (hgd : o.guard = none) (s x : Operand) (t : TypeId) (ho : o.op = .call { callee := .builtin .append, args := #[s, x], argTypes := #[t, t] })
  {e : TypeId} {z : Value} {size bytes : Nat} (ht : P.underlying t = some (.slice e)) (hinfo : (P.info? e).map (fun i => (i.zero, i.size, i.bytes)) = some (some z, size, bytes)) (hzs : z.cells.size = size) (hsz : 0 < size)
  {a : Option Addr} {n c : Nat} {xs : List Value} (hi : l[k]? = some (.row a n c e size xs)) (hs : ac.eval s = .slice a n c)
  {a2 : Option Addr} {m c2 : Nat} {news : List Value} (hx : ac.eval x = .slice a2 m c2) (hl : news.length = m * size) (hsrc : Rd W a2 news) (h1 : ∀ u ∈ news, u.oneCell' = true) (hbytes : (n + m) * bytes ≤ 140737488355328) (hby : 0 < bytes)
  (h : ∀ a' c' W', Fr w W' (l.set k (.row a' (n + m) c' e size (xs ++ news))) → wpList P ops Q rest (ac.put o.dst (.slice a' (n + m) c')) W') : wpList P ops Q (o :: rest) ac W :=
 wpList_append_hn hgd s x t ho ht hinfo hzs hsz hs (F.own k hi) hx hl hsrc h1 hbytes hby F.bel.size fun a' c' W' ho' hg hn => h a' c' W' (F.app k hi hg ho' hn)
end
end Fr
section
variable {w W : World} {l : List It} {ops : Array Oper} {rest : List Oper} {o : Oper} {ac : Act} {Q : Exit → Act → World → Prop}
theorem Fr.appI (F : Fr w W l) (k : Nat) (hgd : o.guard = none) (s x : Operand) (ho : o.op = .call { callee := .builtin .append, args := #[s, x], argTypes := #[23, 23] })
  {a : Option Addr} {n c : Nat} {xs : List Value} (hi : l[k]? = some (.row a n c 3 1 xs)) (hs : ac.eval s = .slice a n c) {a2 : Option Addr} {m c2 : Nat} (ys : List Int) (hx : ac.eval x = .slice a2 m c2) (hl : ys.length = m) (hsrc : Rd W a2 (ints ys)) (hb : n + m ≤ 1048576)
  (h : ∀ a' c' W', Fr w W' (l.set k (.row a' (n + m) c' 3 1 (xs ++ ints ys))) → wpList Try.prog ops Q rest (ac.put o.dst (.slice a' (n + m) c')) W') : wpList Try.prog ops Q (o :: rest) ac W :=
 F.wpApp k hgd s x _ ho Try.underlying23 info_int rfl (by decide) hi hs hx (by rw [List.length_map, hl, Nat.mul_one]) hsrc (ints_one ys) (by omega) (by decide) h
theorem info_let' : (Try.prog.info? 155).map (fun i => (i.zero, i.size, i.bytes)) = some (some (.agg #[.int .i64 0, .int .i64 0]), 2, 16) := by kernel_rfl
theorem Fr.appL (F : Fr w W l) (k : Nat) (hgd : o.guard = none) (s x : Operand) (ho : o.op = .call { callee := .builtin .append, args := #[s, x], argTypes := #[90, 90] })
  {a : Option Addr} {n c : Nat} {xs : List Value} (hi : l[k]? = some (.row a n c 155 2 xs)) (hs : ac.eval s = .slice a n c) {a2 : Option Addr} {m c2 : Nat} (ys : List (Int × Int)) (hx : ac.eval x = .slice a2 m c2) (hl : ys.length = m) (hsrc : Rd W a2 (pairs ys)) (hb : n + m ≤ 1048576)
  (h : ∀ a' c' W', Fr w W' (l.set k (.row a' (n + m) c' 155 2 (xs ++ pairs ys))) → wpList Try.prog ops Q rest (ac.put o.dst (.slice a' (n + m) c')) W') : wpList Try.prog ops Q (o :: rest) ac W :=
 F.wpApp k hgd s x _ ho Try.underlying90 info_let' rfl (by decide) hi hs hx (by rw [pairs_len, hl]) hsrc (pairs_one ys) (by omega) (by decide) h
end
structure SmS (s : StD) : Prop where
 pl : 0 < s.places.length ∧ s.places.length ≤ 1048576
 st : 0 < s.status.length ∧ s.status.length ≤ 1048576
 sa : s.said.length ≤ 1048576
 se : s.sems.length ≤ 1048576
 on : s.onces.length ≤ 1048576
 gr : s.groups.length ≤ 1048576
 ba : s.bars.length ≤ 1048576
 ch : s.chans.length ≤ 1048576
 qse : ∀ i, (s.sems.getD i noSem).queue.length ≤ 1048576
 qon : ∀ i, (s.onces.getD i noOnce).waits.length ≤ 1048576
 qgr : ∀ i, (s.groups.getD i noGrp).waits.length ≤ 1048576
 qba : ∀ i, (s.bars.getD i noBar).waits.length ≤ 1048576
 qch : ∀ i, (s.chans.getD i noChn).items.length ≤ 1048576 ∧ (s.chans.getD i noChn).senders.length ≤ 1048576 ∧ (s.chans.getD i noChn).getters.length ≤ 1048576
def part (s : StD) (a b c d e : Nat) : StD := ⟨s.places, s.status, s.sems.take a, s.onces.take b, s.groups.take c, s.bars.take d, s.chans.take e, s.said, s.fault⟩
theorem take_snoc {α : Type} (l : List α) (d : α) {j : Nat} (hj : j < l.length) : l.take j ++ [l.getD j d] = l.take (j + 1) := by
 rw [List.take_add_one, List.getElem?_eq_getElem hj, List.getD_eq_getElem?_getD, List.getElem?_eq_getElem hj]
 rfl
theorem part_all (s : StD) : part s s.sems.length s.onces.length s.groups.length s.bars.length s.chans.length = s := by
 simp only [part, List.take_length]
theorem info_sem : (Try.prog.info? 79).map (fun i => (i.zero, i.size, i.bytes)) = some (some (.agg #[.int .i64 0, .int .i64 0, .slice none 0 0]), 3, 40) := by kernel_rfl
theorem info_once : (Try.prog.info? 83).map (fun i => (i.zero, i.size, i.bytes)) = some (some (.agg #[.int .i64 0, .int .i64 0, .int .i64 0, .slice none 0 0]), 4, 48) := by kernel_rfl
theorem info_grp : (Try.prog.info? 85).map (fun i => (i.zero, i.size, i.bytes)) = some (some (.agg #[.int .i64 0, .slice none 0 0]), 2, 32) := by kernel_rfl
theorem info_bar : (Try.prog.info? 87).map (fun i => (i.zero, i.size, i.bytes)) = some (some (.agg #[.int .i64 0, .int .i64 0, .slice none 0 0]), 3, 40) := by kernel_rfl
theorem info_chn : (Try.prog.info? 92).map (fun i => (i.zero, i.size, i.bytes)) = some (some (.agg #[.int .i64 0, .slice none 0 0, .slice none 0 0, .slice none 0 0, .bool false]), 5, 88) := by kernel_rfl
theorem apart_cap {w : World} {B B' : Nat} {e e' : TypeId} {n n' c : Nat} {a a' : Option Addr} {cs cs' : List Value} (h : w.ownsRow B e 1 (.slice a n c) n cs) (h' : w.ownsRow B' e' 1 (.slice a' n' 0) n' cs') (hn : 0 < n) : ∀ k, rowOf a = some k → rowOf a' ≠ some k := by
 intro k hk hk'
 have h1 := (owns_cap h).1
 rcases h.2 with ⟨e1, e2⟩ | ⟨g, cap, cur, e1, _, hg, _, _, hs, _⟩
 ·simp only [Value.slice.injEq] at e1; omega
 ·simp only [Value.slice.injEq, true_and] at e1
  obtain ⟨rfl, rfl⟩ := e1
  obtain rfl : g = k := by simpa [rowOf] using hk
  rcases h'.2 with ⟨e1, e2⟩ | ⟨g', cap', cur', e1, _, hg', _, _, hs', _⟩
  ·simp only [Value.slice.injEq] at e1
   rw [e1.1] at hk'; cases hk'
  ·simp only [Value.slice.injEq, true_and] at e1
   obtain ⟨rfl, rfl⟩ := e1
   obtain rfl : g' = g := by simpa [rowOf] using hk'
   rw [hg] at hg'
   simp only [Option.some.injEq, Obj.cells.injEq] at hg'
   rw [hg'.1] at hs
   omega
theorem foots_set : ∀ {l : List It} {k : Nat} {i i' : It}, l[k]? = some i → i'.foot = i.foot → foots (l.set k i') = foots l
 | [], k, _, _, h, _ => by simp at h
 | j :: l, 0, i, i', h, e => by
  obtain rfl : j = i := by simpa using h
  show i'.foot ++ foots l = j.foot ++ foots l
  rw [e]
 | j :: l, k + 1, i, i', h, e => by
  show j.foot ++ foots (l.set k i') = j.foot ++ foots l
  rw [foots_set (by simpa using h) e]
theorem foot_in {l : List It} {k : Nat} {i : It} (h : l[k]? = some i) : ∀ q ∈ i.foot, q ∈ foots l := fun _ hq => List.mem_flatMap.2 ⟨i, List.mem_of_getElem? h, hq⟩
theorem Fr.other {w W W' : World} {l : List It} {S : List Nat} (F : Fr w W l) (T : Touch S W W') (hS : ∀ k ∈ S, w.heap.size ≤ k ∧ k ∉ foots l) : Fr w W' l :=
 ⟨F.bel.trans (T.below F.bel.size fun q hq => (hS q hq).1), fun i hi => It.keep (F.has i hi) fun q hq => T.block q (It.inside (F.has i hi) q hq).2 fun hm => (hS q hm).2 (List.mem_flatMap.2 ⟨i, hi, hq⟩), F.ap⟩
structure Sf (w W : World) (l : List It) (v : StV) (L : StL) (s : StD) : Prop where
 fr : Fr w W l
 st : StO (foots l) w.heap.size W v L s
namespace Sf
variable {w W W' : World} {l : List It} {v v' : StV} {L L' : StL} {s s' : StD}
theorem named (h : Sf w W l v L s) : ∃ x, x = W ∧ Sf w x l v L s := ⟨W, rfl, h⟩
theorem call (h : Sf w W l v L s) (hb : Below W.heap.size W W') : Sf w W' l v L s := ⟨h.fr.call hb, h.st.below hb⟩
theorem more (h : Sf w W l v L s) (hb : Below W.heap.size W W') {i : It} (hi : i.has W.heap.size W') : Sf w W' (i :: l) v L s := ⟨h.fr.more hb hi, h.st.boxAll hb (It.inside hi)⟩
theorem alloc (h : Sf w W l v L s) (cs : Array Value) (T : TypeId) : Sf w (W.alloc (.cells cs T)) (.blk W.heap.size cs T :: l) v L s := h.more (xA1) ⟨Nat.le_refl _, Blk.new _ _ _⟩
theorem row (h : Sf w W l v L s) (hb : Below W.heap.size W W') {a : Option Addr} {n c sz : Nat} {E : TypeId} {cs : List Value} (ho : W'.ownsRow W.heap.size E sz (.slice a n c) n cs) : Sf w W' (.row a n c E sz cs :: l) v L s := h.more hb ho
theorem join {l' : List It} (h : Sf w W l v L s) (F : Fr W W' l') : Sf w W' (l' ++ l) v L s := ⟨h.fr.join F, by
 have := h.st.boxAll F.bel (A := foots l') F.inside
 rwa [show foots (l' ++ l) = foots l' ++ foots l from List.flatMap_append]⟩
theorem sub (h : Sf w W l v L s) {l' : List It} (hs : List.Sublist l' l) : Sf w W l' v L s := ⟨h.fr.sub hs, h.st.sub fun _ hk => (Fr.foots_sub hs).subset hk⟩
theorem pull (h : Sf w W l v L s) (k : Nat) {i : It} (hi : l[k]? = some i) : Sf w W (i :: l.eraseIdx k) v L s := ⟨h.fr.pull k hi, h.st.sub fun q hq => by
 obtain ⟨j, hj, hqj⟩ := List.mem_flatMap.1 hq
 rcases List.mem_cons.1 hj with rfl | hj
 ·exact foot_in hi q hqj
 ·exact List.mem_flatMap.2 ⟨j, List.mem_of_mem_eraseIdx hj, hqj⟩⟩
theorem step (h : Sf w W l v L s) (k : Nat) {i : It} (hi : l[k]? = some i) (T : Touch i.foot W W') {i' : It} (h' : i'.has w.heap.size W') (hf : i'.foot = i.foot) : Sf w W' (l.set k i') v L s :=
 ⟨h.fr.step k hi T h' fun q hq => .inl (hf ▸ hq), by rw [foots_set hi hf]; exact h.st.other (T.mono (foot_in hi))⟩
theorem set (h : Sf w W l v L s) (k : Nat) {b : Nat} {cs : Array Value} {T : TypeId} (hi : l[k]? = some (.blk b cs T)) (j : Nat) (x : Value) : Sf w (W.setCell ⟨b, j, none⟩ x) (l.set k (.blk b (cs.setIfInBounds j x) T)) v L s := by
 have hh := h.fr.has _ (List.mem_of_getElem? hi)
 exact h.step k hi ((Touch.refl _ _).set (List.mem_singleton.2 rfl)) ⟨hh.1, hh.2.set j x⟩ rfl
theorem blks (h : Sf w W l v L s) : ∀ k ∈ v.blks, w.heap.size ≤ k ∧ k ∉ foots l := fun k hk => ⟨(h.st.from k hk).1, fun hm => (h.st.xs k hm).2 hk⟩
theorem upd (h : Sf w W l v L s) (T : Touch v.blks W W') (hs : StO (foots l) w.heap.size W' v' L' s') : Sf w W' l v' L' s' := ⟨h.fr.other T h.blks, hs⟩
theorem bel (h : Sf w W l v L s) : Below w.heap.size w W := h.fr.bel
theorem rd (h : Sf w W l v L s) : StR W v L s := h.st.rd
theorem c3 (h : Sf w W l v L s) (k : Nat) {b : Nat} {v0 v1 v2 : Value} {T : TypeId} (hi : l[k]? = some (.blk b #[v0, v1, v2] T)) : W.cell? ⟨b, 0, none⟩ = some v0 ∧ W.frozen? ⟨b, 0, none⟩ = false ∧ W.cell? ⟨b, 1, none⟩ = some v1 ∧ W.frozen? ⟨b, 1, none⟩ = false ∧ W.cell? ⟨b, 2, none⟩ = some v2 ∧ W.frozen? ⟨b, 2, none⟩ = false := h.fr.c3 k hi
theorem c5 (h : Sf w W l v L s) (k : Nat) {b : Nat} {v0 v1 v2 v3 v4 : Value} {T : TypeId} (hi : l[k]? = some (.blk b #[v0, v1, v2, v3, v4] T)) : W.cell? ⟨b, 0, none⟩ = some v0 ∧ W.frozen? ⟨b, 0, none⟩ = false ∧ W.cell? ⟨b, 1, none⟩ = some v1 ∧ W.frozen? ⟨b, 1, none⟩ = false ∧ W.cell? ⟨b, 2, none⟩ = some v2 ∧ W.frozen? ⟨b, 2, none⟩ = false ∧ W.cell? ⟨b, 3, none⟩ = some v3 ∧ W.frozen? ⟨b, 3, none⟩ = false ∧ W.cell? ⟨b, 4, none⟩ = some v4 ∧ W.frozen? ⟨b, 4, none⟩ = false := h.fr.c5 k hi
theorem c9 (h : Sf w W l v L s) (k : Nat) {b : Nat} {v0 v1 v2 v3 v4 v5 v6 v7 v8 : Value} {T : TypeId} (hi : l[k]? = some (.blk b #[v0, v1, v2, v3, v4, v5, v6, v7, v8] T)) : W.cell? ⟨b, 0, none⟩ = some v0 ∧ W.frozen? ⟨b, 0, none⟩ = false ∧ W.cell? ⟨b, 1, none⟩ = some v1 ∧ W.frozen? ⟨b, 1, none⟩ = false ∧ W.cell? ⟨b, 2, none⟩ = some v2 ∧ W.frozen? ⟨b, 2, none⟩ = false ∧ W.cell? ⟨b, 3, none⟩ = some v3 ∧ W.frozen? ⟨b, 3, none⟩ = false ∧ W.cell? ⟨b, 4, none⟩ = some v4 ∧ W.frozen? ⟨b, 4, none⟩ = false ∧ W.cell? ⟨b, 5, none⟩ = some v5 ∧ W.frozen? ⟨b, 5, none⟩ = false ∧ W.cell? ⟨b, 6, none⟩ = some v6 ∧ W.frozen? ⟨b, 6, none⟩ = false ∧ W.cell? ⟨b, 7, none⟩ = some v7 ∧ W.frozen? ⟨b, 7, none⟩ = false ∧ W.cell? ⟨b, 8, none⟩ = some v8 ∧ W.frozen? ⟨b, 8, none⟩ = false := h.fr.c9 k hi
theorem set3 (h : Sf w W l v L s) (k : Nat) {b : Nat} {u0 u1 u2 : Value} {T : TypeId} (hi : l[k]? = some (.blk b #[u0, u1, u2] T)) (v0 v1 v2 : Value) : Sf w (((W.setCell ⟨b, 0, none⟩ v0).setCell ⟨b, 1, none⟩ v1).setCell ⟨b, 2, none⟩ v2) (l.set k (.blk b #[v0, v1, v2] T)) v L s := by
 have hh := h.fr.has _ (List.mem_of_getElem? hi)
 exact h.step k hi ((((Touch.refl _ _).set (List.mem_singleton.2 rfl)).set (List.mem_singleton.2 rfl)).set (List.mem_singleton.2 rfl)) ⟨hh.1, by have h9 := (((hh.2.set 0 v0).set 1 v1).set 2 v2); simpa using h9⟩ rfl
theorem set9 (h : Sf w W l v L s) (k : Nat) {b : Nat} {u0 u1 u2 u3 u4 u5 u6 u7 u8 : Value} {T : TypeId} (hi : l[k]? = some (.blk b #[u0, u1, u2, u3, u4, u5, u6, u7, u8] T)) (v0 v1 v2 v3 v4 v5 v6 v7 v8 : Value) : Sf w (((((((((W.setCell ⟨b, 0, none⟩ v0).setCell ⟨b, 1, none⟩ v1).setCell ⟨b, 2, none⟩ v2).setCell ⟨b, 3, none⟩ v3).setCell ⟨b, 4, none⟩ v4).setCell ⟨b, 5, none⟩ v5).setCell ⟨b, 6, none⟩ v6).setCell ⟨b, 7, none⟩ v7).setCell ⟨b, 8, none⟩ v8) (l.set k (.blk b #[v0, v1, v2, v3, v4, v5, v6, v7, v8] T)) v L s := by
 have hh := h.fr.has _ (List.mem_of_getElem? hi)
 exact h.step k hi ((((((((((Touch.refl _ _).set (List.mem_singleton.2 rfl)).set (List.mem_singleton.2 rfl)).set (List.mem_singleton.2 rfl)).set (List.mem_singleton.2 rfl)).set (List.mem_singleton.2 rfl)).set (List.mem_singleton.2 rfl)).set (List.mem_singleton.2 rfl)).set (List.mem_singleton.2 rfl)).set (List.mem_singleton.2 rfl)) ⟨hh.1, by have h9 := (((((((((hh.2.set 0 v0).set 1 v1).set 2 v2).set 3 v3).set 4 v4).set 5 v5).set 6 v6).set 7 v7).set 8 v8); simpa using h9⟩ rfl
theorem setSt (h : Sf w W l v L s) {g : Nat} (hg : v.st.a = some ⟨g, 0, none⟩) (t x : Int) : Sf w (W.setCell ⟨g, t.toNat, none⟩ (.int .i64 x)) l v L (setStat s t x) :=
 h.upd ((h.st.stat hg t x).2.mono fun k hk => by obtain rfl := xS1 hk; exact StV.mem_st (by rw [hg]; rfl)) (h.st.stat hg t x).1
theorem stAt (h : Sf w W l v L s) {g : Nat} (hg : v.st.a = some ⟨g, 0, none⟩) (t : Int) (ht : t.toNat < s.status.length) : W.cell? ⟨g, t.toNat, none⟩ = some (.int .i64 (s.status.getD t.toNat 0)) ∧ W.frozen? ⟨g, t.toNat, none⟩ = false := by
 have own := h.st.st
 rw [show v.st.val = .slice (some ⟨g, 0, none⟩) v.st.n v.st.c by rw [← hg]] at own
 refine ⟨?_, own.frozenAt t.toNat⟩
 rw [own.cellAt t.toNat (by rw [h.st.nst]; omega)]
 simp [ints, ht, List.getD]
theorem apart (h : Sf w W l v L s) {W1 : World} {q : SlV} {cs : List Value} {n : Nat} (hs : SlN W W1 q cs n) : SlR (foots l ++ v.blks) W1 q cs n := hs.r fun b hb => by
 rcases xP1 hb with hb | hb
 ·exact (h.fr.inside b hb).2
 ·exact (h.st.from b hb).2
end Sf
section
variable {w W : World} {l : List It} {v : StV} {L : StL} {s : StD} {ops : Array Oper} {rest : List Oper} {o : Oper} {ac : Act} {Q : Exit → Act → World → Prop}
theorem Sf.app_se (h : Sf w W l v L s) (hgd : o.guard = none) (y z : Operand) (ho : o.op = .call { callee := .builtin .append, args := #[y, z], argTypes := #[38, 38] }) (hs : ac.eval y = v.se.val) {a2 : Option Addr} {c2 : Nat} {x : SemD} {q : SlV} (hx : ac.eval z = .slice a2 1 c2) (hr : Rd W a2 (semC (x, q))) (hq : semR (foots l ++ v.blks) W x q) (hn : v.se.n + 1 ≤ 1048576)
  (K : ∀ (r : SlV) W', Sf w W' l { v with se := r } { L with se := L.se ++ [(x, q)] } { s with sems := s.sems ++ [x] } → wpList Try.prog ops Q rest (ac.put o.dst r.val) W') : wpList Try.prog ops Q (o :: rest) ac W :=
 wpList_append_hn hgd y z _ ho Try.underlying38 info_sem rfl (by decide) hs h.st.se hx rfl hr (by intro u hu; simp only [semC, List.mem_cons, List.not_mem_nil, or_false] at hu; (rcases hu with rfl | rfl | rfl) <;> rfl) (by omega) (by decide) h.fr.bel.size fun a' c' W' ho' hg hn' =>
  K ⟨a', v.se.n + 1, c'⟩ W' (h.upd (Touch.of_grown hg fun k hk => StV.mem_se hk) (h.st.push_se hg hn' hq (by show v.se.n + 1 = _; rw [h.st.nse]) (by rw [List.flatMap_append]; simpa using ho')))
theorem Sf.app_on (h : Sf w W l v L s) (hgd : o.guard = none) (y z : Operand) (ho : o.op = .call { callee := .builtin .append, args := #[y, z], argTypes := #[39, 39] }) (hs : ac.eval y = v.on.val) {a2 : Option Addr} {c2 : Nat} {x : OnceD} {q : SlV} (hx : ac.eval z = .slice a2 1 c2) (hr : Rd W a2 (onceC (x, q))) (hq : onceR (foots l ++ v.blks) W x q) (hn : v.on.n + 1 ≤ 1048576)
  (K : ∀ (r : SlV) W', Sf w W' l { v with on := r } { L with on := L.on ++ [(x, q)] } { s with onces := s.onces ++ [x] } → wpList Try.prog ops Q rest (ac.put o.dst r.val) W') : wpList Try.prog ops Q (o :: rest) ac W :=
 wpList_append_hn hgd y z _ ho Try.underlying39 info_once rfl (by decide) hs h.st.on hx rfl hr (by intro u hu; simp only [onceC, List.mem_cons, List.not_mem_nil, or_false] at hu; (rcases hu with rfl | rfl | rfl | rfl) <;> rfl) (by omega) (by decide) h.fr.bel.size fun a' c' W' ho' hg hn' =>
  K ⟨a', v.on.n + 1, c'⟩ W' (h.upd (Touch.of_grown hg fun k hk => StV.mem_on hk) (h.st.push_on hg hn' hq (by show v.on.n + 1 = _; rw [h.st.non]) (by rw [List.flatMap_append]; simpa using ho')))
theorem Sf.app_gr (h : Sf w W l v L s) (hgd : o.guard = none) (y z : Operand) (ho : o.op = .call { callee := .builtin .append, args := #[y, z], argTypes := #[40, 40] }) (hs : ac.eval y = v.gr.val) {a2 : Option Addr} {c2 : Nat} {x : GrpD} {q : SlV} (hx : ac.eval z = .slice a2 1 c2) (hr : Rd W a2 (grpC (x, q))) (hq : grpR (foots l ++ v.blks) W x q) (hn : v.gr.n + 1 ≤ 1048576)
  (K : ∀ (r : SlV) W', Sf w W' l { v with gr := r } { L with gr := L.gr ++ [(x, q)] } { s with groups := s.groups ++ [x] } → wpList Try.prog ops Q rest (ac.put o.dst r.val) W') : wpList Try.prog ops Q (o :: rest) ac W :=
 wpList_append_hn hgd y z _ ho Try.underlying40 info_grp rfl (by decide) hs h.st.gr hx rfl hr (by intro u hu; simp only [grpC, List.mem_cons, List.not_mem_nil, or_false] at hu; (rcases hu with rfl | rfl) <;> rfl) (by omega) (by decide) h.fr.bel.size fun a' c' W' ho' hg hn' =>
  K ⟨a', v.gr.n + 1, c'⟩ W' (h.upd (Touch.of_grown hg fun k hk => StV.mem_gr hk) (h.st.push_gr hg hn' hq (by show v.gr.n + 1 = _; rw [h.st.ngr]) (by rw [List.flatMap_append]; simpa using ho')))
theorem Sf.app_ba (h : Sf w W l v L s) (hgd : o.guard = none) (y z : Operand) (ho : o.op = .call { callee := .builtin .append, args := #[y, z], argTypes := #[41, 41] }) (hs : ac.eval y = v.ba.val) {a2 : Option Addr} {c2 : Nat} {x : BarD} {q : SlV} (hx : ac.eval z = .slice a2 1 c2) (hr : Rd W a2 (barC (x, q))) (hq : barR (foots l ++ v.blks) W x q) (hn : v.ba.n + 1 ≤ 1048576)
  (K : ∀ (r : SlV) W', Sf w W' l { v with ba := r } { L with ba := L.ba ++ [(x, q)] } { s with bars := s.bars ++ [x] } → wpList Try.prog ops Q rest (ac.put o.dst r.val) W') : wpList Try.prog ops Q (o :: rest) ac W :=
 wpList_append_hn hgd y z _ ho Try.underlying41 info_bar rfl (by decide) hs h.st.ba hx rfl hr (by intro u hu; simp only [barC, List.mem_cons, List.not_mem_nil, or_false] at hu; (rcases hu with rfl | rfl | rfl) <;> rfl) (by omega) (by decide) h.fr.bel.size fun a' c' W' ho' hg hn' =>
  K ⟨a', v.ba.n + 1, c'⟩ W' (h.upd (Touch.of_grown hg fun k hk => StV.mem_ba hk) (h.st.push_ba hg hn' hq (by show v.ba.n + 1 = _; rw [h.st.nba]) (by rw [List.flatMap_append]; simpa using ho')))
theorem Sf.app_ch (h : Sf w W l v L s) (hgd : o.guard = none) (y z : Operand) (ho : o.op = .call { callee := .builtin .append, args := #[y, z], argTypes := #[42, 42] }) (hs : ac.eval y = v.ch.val) {a2 : Option Addr} {c2 : Nat} {x : ChnD} {q : SlV × SlV × SlV} (hx : ac.eval z = .slice a2 1 c2) (hr : Rd W a2 (chnC (x, q))) (hq : chnR (foots l ++ v.blks) W x q) (hn : v.ch.n + 1 ≤ 1048576)
  (K : ∀ (r : SlV) W', Sf w W' l { v with ch := r } { L with ch := L.ch ++ [(x, q)] } { s with chans := s.chans ++ [x] } → wpList Try.prog ops Q rest (ac.put o.dst r.val) W') : wpList Try.prog ops Q (o :: rest) ac W :=
 wpList_append_hn hgd y z _ ho Try.underlying42 info_chn rfl (by decide) hs h.st.ch hx rfl hr (by intro u hu; simp only [chnC, List.mem_cons, List.not_mem_nil, or_false] at hu; (rcases hu with rfl | rfl | rfl | rfl | rfl) <;> rfl) (by omega) (by decide) h.fr.bel.size fun a' c' W' ho' hg hn' =>
  K ⟨a', v.ch.n + 1, c'⟩ W' (h.upd (Touch.of_grown hg fun k hk => StV.mem_ch hk) (h.st.push_ch hg hn' hq (by show v.ch.n + 1 = _; rw [h.st.nch]) (by rw [List.flatMap_append]; simpa using ho')))
theorem Sf.app_sa (h : Sf w W l v L s) (hgd : o.guard = none) (y z : Operand) (ho : o.op = .call { callee := .builtin .append, args := #[y, z], argTypes := #[23, 23] }) (hs : ac.eval y = v.sa.val) {a2 : Option Addr} {c2 : Nat} {x : Int} (hx : ac.eval z = .slice a2 1 c2) (hr : Rd W a2 (ints [x])) (hn : v.sa.n + 1 ≤ 1048576)
  (K : ∀ (r : SlV) W', Sf w W' l { v with sa := r } L (sayIt s x) → wpList Try.prog ops Q rest (ac.put o.dst r.val) W') : wpList Try.prog ops Q (o :: rest) ac W :=
 wpList_append_hn hgd y z _ ho Try.underlying23 info_int rfl (by decide) hs h.st.sa hx rfl hr (ints_one [x]) (by omega) (by decide) h.fr.bel.size fun a' c' W' ho' hg hn' =>
  K ⟨a', v.sa.n + 1, c'⟩ W' (h.upd (Touch.of_grown hg fun k hk => StV.mem_sa hk) (h.st.say hg hn' (by show v.sa.n + 1 = _; rw [List.length_append, h.st.nsa]; rfl) (by rw [ints_app]; exact ho')))
end
def newS (B : Nat) (cs : List Value) (q : SlV) : Prop := cs = [] ∨ ∀ b, rowOf q.a = some b → B ≤ b
structure NewB (B : Nat) (L : StL) : Prop where
 se : ∀ z ∈ L.se, newS B (pairs z.1.queue) z.2
 on : ∀ z ∈ L.on, newS B (ints z.1.waits) z.2
 gr : ∀ z ∈ L.gr, newS B (ints z.1.waits) z.2
 ba : ∀ z ∈ L.ba, newS B (ints z.1.waits) z.2
 ch : ∀ z ∈ L.ch, newS B (ints z.1.items) z.2.1 ∧ newS B (pairs z.1.senders) z.2.2.1 ∧ newS B (ints z.1.getters) z.2.2.2
theorem NewB.nil (B : Nat) : NewB B ⟨[], [], [], [], []⟩ := ⟨by simp, by simp, by simp, by simp, by simp⟩
theorem newS.lower {B B' : Nat} {cs : List Value} {q : SlV} (h : newS B cs q) (hb : B' ≤ B) : newS B' cs q := h.imp id fun h b e => Nat.le_trans hb (h b e)
theorem mem_one {α : Type} {l : List α} {x : α} {P : α → Prop} (h : ∀ z ∈ l, P z) (hx : P x) : ∀ z ∈ l ++ [x], P z := fun z hz => by
 rcases xP1 hz with hz | hz
 ·exact h z hz
 ·obtain rfl := xS1 hz; exact hx
theorem NewB.se1 {B : Nat} {L : StL} (h : NewB B L) {x : SemD} {q : SlV} (hq : newS B (pairs x.queue) q) : NewB B { L with se := L.se ++ [(x, q)] } := ⟨mem_one h.se hq, h.on, h.gr, h.ba, h.ch⟩
theorem NewB.on1 {B : Nat} {L : StL} (h : NewB B L) {x : OnceD} {q : SlV} (hq : newS B (ints x.waits) q) : NewB B { L with on := L.on ++ [(x, q)] } := ⟨h.se, mem_one h.on hq, h.gr, h.ba, h.ch⟩
theorem NewB.gr1 {B : Nat} {L : StL} (h : NewB B L) {x : GrpD} {q : SlV} (hq : newS B (ints x.waits) q) : NewB B { L with gr := L.gr ++ [(x, q)] } := ⟨h.se, h.on, mem_one h.gr hq, h.ba, h.ch⟩
theorem NewB.ba1 {B : Nat} {L : StL} (h : NewB B L) {x : BarD} {q : SlV} (hq : newS B (ints x.waits) q) : NewB B { L with ba := L.ba ++ [(x, q)] } := ⟨h.se, h.on, h.gr, mem_one h.ba hq, h.ch⟩
theorem NewB.ch1 {B : Nat} {L : StL} (h : NewB B L) {x : ChnD} {q : SlV × SlV × SlV} (hq : newS B (ints x.items) q.1 ∧ newS B (pairs x.senders) q.2.1 ∧ newS B (ints x.getters) q.2.2) : NewB B { L with ch := L.ch ++ [(x, q)] } := ⟨h.se, h.on, h.gr, h.ba, mem_one h.ch hq⟩
theorem SlR.aside {X S : List Nat} {B : Nat} {w : World} {q : SlV} {cs : List Value} {k : Nat} (h : SlR S w q cs k) (hn : newS B cs q) (hX : ∀ k ∈ X, k < B) : SlR (X ++ S) w q cs k := by
 refine ⟨h.len, h.rd, ?_, h.cap⟩
 rcases hn with hn | hn
 ·exact .inl hn
 rcases h.far with hf | hf
 ·exact .inl hf
 refine .inr fun b hb hm => ?_
 rcases xP1 hm with hm | hm
 ·have := hn b hb; have := hX b hm; omega
 ·exact hf b hb hm
theorem StO.aside {X : List Nat} {B : Nat} {w : World} {v : StV} {L : StL} {s : StD} (h : StO [] B w v L s) (hn : NewB B L) (hX : ∀ k ∈ X, k < B ∧ k < w.heap.size) : StO X B w v L s :=
 have hB : ∀ k ∈ X, k < B := fun k hk => (hX k hk).1
 ⟨h.pl, h.npl, h.st, h.nst, h.se, h.nse, h.on, h.non, h.gr, h.ngr, h.ba, h.nba, h.ch, h.nch, h.sa, h.nsa, h.fl, h.dps, h.dpa, h.dsa, fun k hk => ⟨(hX k hk).2, fun hm => by have := (h.from k hm).1; have := hB k hk; omega⟩,
  ⟨⟨h.inn.se.e, fun x hx => (h.inn.se.r x hx).aside (hn.se x hx) hB⟩, ⟨h.inn.on.e, fun x hx => (h.inn.on.r x hx).aside (hn.on x hx) hB⟩, ⟨h.inn.gr.e, fun x hx => (h.inn.gr.r x hx).aside (hn.gr x hx) hB⟩, ⟨h.inn.ba.e, fun x hx => (h.inn.ba.r x hx).aside (hn.ba x hx) hB⟩, ⟨h.inn.ch.e, fun x hx => ⟨(h.inn.ch.r x hx).1.aside (hn.ch x hx).1 hB, (h.inn.ch.r x hx).2.1.aside (hn.ch x hx).2.1 hB, (h.inn.ch.r x hx).2.2.aside (hn.ch x hx).2.2 hB⟩⟩⟩⟩
theorem Sf.gain {w W W' : World} {l : List It} {v : StV} {L : StL} {s : StD} (F : Fr w W l) (ho : StO [] W.heap.size W' v L s) (hn : NewB W.heap.size L) (hb : Below W.heap.size W W') : Sf w W' l v L s :=
 ⟨F.call hb, (ho.aside hn fun k hk => ⟨(F.inside k hk).2, Nat.lt_of_lt_of_le (F.inside k hk).2 hb.size⟩).lower F.bel.size⟩
structure TS (T : TypeId) (B : Nat) (w w' : World) : Prop where
 bel : Below B w w'
 oth : ∀ (k : Nat) (cs : Array Value) (e : TypeId) (fr : Nat × Nat), w.heap[k]? = some (Obj.cells cs e fr) → e ≠ T → w'.heap[k]? = w.heap[k]?
 prg : ∀ (k : Nat) (cs : Array Value), Blk w k cs T → ∃ ds : Array Value, ds.size = cs.size ∧ Blk w' k ds T
theorem SlN.ts {T : TypeId} {B : Nat} {w0 w w' : World} {s : SlV} {cs : List Value} {k : Nat} (h : SlN w0 w s cs k) (t : TS T B w w') (hT : T ∈ structT) : SlN w0 w' s cs k := by
 rcases h.ty with h0 | hty
 ·exact ⟨h.len, .inl h0, h.new, h.cap, .inl h0⟩
 ·refine ⟨h.len, ?_, h.new, h.cap, .inr fun b hb => ?_⟩
  ·rcases h.rd with h0 | ⟨b, o, e, hc⟩
   ·exact .inl h0
   ·refine .inr ⟨b, o, e, fun j hj => ?_⟩
    obtain ⟨cur, e', fr, h1, h2⟩ := hty b (by rw [e]; rfl)
    have h3 := t.oth b cur e' fr h1 (fun hh => h2 (hh ▸ hT))
    have h4 := hc j hj
    unfold World.cell? at h4 ⊢
    rw [h3]; exact h4
  ·obtain ⟨cur, e', fr, h1, h2⟩ := hty b hb
   exact ⟨cur, e', fr, (t.oth b cur e' fr h1 (fun hh => h2 (hh ▸ hT))).trans h1, h2⟩
theorem owns_ts {T : TypeId} {B B' : Nat} {w w' : World} {e : TypeId} {sz n c : Nat} {a : Option Addr} {cs : List Value} (h : w.ownsRow B' e sz (.slice a n c) n cs) (t : TS T B w w') (he : e ≠ T) : w'.ownsRow B' e sz (.slice a n c) n cs :=
 owns_keep h fun k hk _ => by
  rw [ownBlock_slice] at hk
  obtain ⟨cur, fr, h1⟩ := owns_typed h k hk
  exact t.oth k cur e fr h1 he
def tupGet : Value → Nat → Value
 | .tuple vs, i => vs.getD i undef
 | _, _ => undef
theorem fcff {l : List Oper} {ρ : Operand → Value} {a : Act} (h : ∀ x, outer l x = true → ρ x = a.eval x) : (∀ z, ρ (.const z) = z) ∧ (∀ z, ρ (.func z) = .func (.func z) #[] #[]) := ⟨fun _ => h _ rfl, fun _ => h _ rfl⟩
def isV (V : Value) (_ : List Value) (u : Value) (_ : World) : Prop := u = V
theorem pS {V : Value} {S : World → World → Prop} : ∀ ds u w w', S w w' → isV V ds u w → isV V ds u w' := fun _ _ _ _ _ h => h
theorem gvF {P : Program} {o : Oper} {ρ : Operand → Value} {W w1 : World} {R : Value → World → Prop} {B : Value → Option Nat} {u : Value} (hG : Below W.heap.size W w1) (h : (execOp ρ o).run P w1 = .ok (.value u) w1) (hR : R u w1) (hB : ∀ k, B u = some k → False) : gives P o ρ w1 (fun u w' => Below w1.heap.size w1 w' ∧ R u w' ∧ (∀ k, B u = some k → w1.heap.size ≤ k ∧ k < w'.heap.size) ∧ Below W.heap.size W w') :=
 gives_val h ⟨Below.refl _ _, hR, fun k hk => (hB k hk).elim, hG⟩
theorem wp_region_ts {P : Program} {id : Nat} {l : List Oper} (n : Nat) (T : TypeId) (i0 : Nat) {a0 : Act} {w : World} {Q : Exit → Act → World → Prop} (hm : P.follows .mixedOrders = true) (hf : fits l n a0.tmps.size = true) (Rs : List (List Value → Value → World → Prop)) (h1 : StabAll Rs) (h2 : StabAllBy i0 (TS T w.heap.size) 0 Rs) (hsteps : Steps P (l.take n) Rs (St1 i0 (TS T w.heap.size)) (fun _ _ => none) (fun _ w' => Below w.heap.size w w') a0.eval (l.take n) 0) (hend : ∀ (vs : List Value) w', Below w.heap.size w w' → vs.length = n → All Rs vs w' (l.take n) 0 → wpList P l.toArray Q (l.drop n) (putAll (l.take n) a0 vs) w') : (Code.region id l.toArray true).wp P Q a0 w :=
 wp_region_steps n hm hf Rs _ _ _ (fun _ _ => xB1.drew) (st1_size fun _ _ h => h.bel.size) (stab1_of h1 h2) hsteps (fun vs w' _ hG hl ha _ _ => hend vs w' hG hl ha)
theorem wp_region_fr {P : Program} {id : Nat} {l : List Oper} (n : Nat) {a0 : Act} {w : World} {Q : Exit → Act → World → Prop} (hm : P.follows .mixedOrders = true) (hf : fits l n a0.tmps.size = true) (Rs : List (List Value → Value → World → Prop)) (h1 : StabAll Rs) (hsteps : StepsF P (l.take n) Rs (fun _ _ => none) (fun w' => Below w.heap.size w w') a0.eval (l.take n) 0) (hend : ∀ (vs : List Value) w', Below w.heap.size w w' → vs.length = n → All Rs vs w' (l.take n) 0 → wpList P l.toArray Q (l.drop n) (putAll (l.take n) a0 vs) w') : (Code.region id l.toArray true).wp P Q a0 w :=
 wp_region_fresh n hm hf Rs _ _ xB1.drew (stab_of h1) hsteps (fun vs w' hG hl ha _ _ => hend vs w' hG hl ha)
theorem len0 {vs : List Value} (h : vs.length = 0) : vs = [] := List.eq_nil_of_length_eq_zero h
theorem len1 {vs : List Value} (h : vs.length = 1) : ∃ x0, vs = [x0] := by
 obtain ⟨x0, t, rfl, g⟩ := len_cons h
 obtain rfl := len0 g
 exact ⟨x0, rfl⟩
theorem len2 {vs : List Value} (h : vs.length = 2) : ∃ x0 x1, vs = [x0, x1] := by
 obtain ⟨x0, t, rfl, g⟩ := len_cons h
 obtain ⟨x1, rfl⟩ := len1 g
 exact ⟨x0, x1, rfl⟩
theorem len3 {vs : List Value} (h : vs.length = 3) : ∃ x0 x1 x2, vs = [x0, x1, x2] := by
 obtain ⟨x0, t, rfl, g⟩ := len_cons h
 obtain ⟨x1, x2, rfl⟩ := len2 g
 exact ⟨x0, x1, x2, rfl⟩
theorem len4 {vs : List Value} (h : vs.length = 4) : ∃ x0 x1 x2 x3, vs = [x0, x1, x2, x3] := by
 obtain ⟨x0, t, rfl, g⟩ := len_cons h
 obtain ⟨x1, x2, x3, rfl⟩ := len3 g
 exact ⟨x0, x1, x2, x3, rfl⟩
theorem len5 {vs : List Value} (h : vs.length = 5) : ∃ x0 x1 x2 x3 x4, vs = [x0, x1, x2, x3, x4] := by
 obtain ⟨x0, t, rfl, g⟩ := len_cons h
 obtain ⟨x1, x2, x3, x4, rfl⟩ := len4 g
 exact ⟨x0, x1, x2, x3, x4, rfl⟩
theorem len6 {vs : List Value} (h : vs.length = 6) : ∃ x0 x1 x2 x3 x4 x5, vs = [x0, x1, x2, x3, x4, x5] := by
 obtain ⟨x0, t, rfl, g⟩ := len_cons h
 obtain ⟨x1, x2, x3, x4, x5, rfl⟩ := len5 g
 exact ⟨x0, x1, x2, x3, x4, x5, rfl⟩
theorem len7 {vs : List Value} (h : vs.length = 7) : ∃ x0 x1 x2 x3 x4 x5 x6, vs = [x0, x1, x2, x3, x4, x5, x6] := by
 obtain ⟨x0, t, rfl, g⟩ := len_cons h
 obtain ⟨x1, x2, x3, x4, x5, x6, rfl⟩ := len6 g
 exact ⟨x0, x1, x2, x3, x4, x5, x6, rfl⟩
theorem len8 {vs : List Value} (h : vs.length = 8) : ∃ x0 x1 x2 x3 x4 x5 x6 x7, vs = [x0, x1, x2, x3, x4, x5, x6, x7] := by
 obtain ⟨x0, t, rfl, g⟩ := len_cons h
 obtain ⟨x1, x2, x3, x4, x5, x6, x7, rfl⟩ := len7 g
 exact ⟨x0, x1, x2, x3, x4, x5, x6, x7, rfl⟩
theorem len9 {vs : List Value} (h : vs.length = 9) : ∃ x0 x1 x2 x3 x4 x5 x6 x7 x8, vs = [x0, x1, x2, x3, x4, x5, x6, x7, x8] := by
 obtain ⟨x0, t, rfl, g⟩ := len_cons h
 obtain ⟨x1, x2, x3, x4, x5, x6, x7, x8, rfl⟩ := len8 g
 exact ⟨x0, x1, x2, x3, x4, x5, x6, x7, x8, rfl⟩
theorem len10 {vs : List Value} (h : vs.length = 10) : ∃ x0 x1 x2 x3 x4 x5 x6 x7 x8 x9, vs = [x0, x1, x2, x3, x4, x5, x6, x7, x8, x9] := by
 obtain ⟨x0, t, rfl, g⟩ := len_cons h
 obtain ⟨x1, x2, x3, x4, x5, x6, x7, x8, x9, rfl⟩ := len9 g
 exact ⟨x0, x1, x2, x3, x4, x5, x6, x7, x8, x9, rfl⟩
theorem len11 {vs : List Value} (h : vs.length = 11) : ∃ x0 x1 x2 x3 x4 x5 x6 x7 x8 x9 x10, vs = [x0, x1, x2, x3, x4, x5, x6, x7, x8, x9, x10] := by
 obtain ⟨x0, t, rfl, g⟩ := len_cons h
 obtain ⟨x1, x2, x3, x4, x5, x6, x7, x8, x9, x10, rfl⟩ := len10 g
 exact ⟨x0, x1, x2, x3, x4, x5, x6, x7, x8, x9, x10, rfl⟩
theorem len12 {vs : List Value} (h : vs.length = 12) : ∃ x0 x1 x2 x3 x4 x5 x6 x7 x8 x9 x10 x11, vs = [x0, x1, x2, x3, x4, x5, x6, x7, x8, x9, x10, x11] := by
 obtain ⟨x0, t, rfl, g⟩ := len_cons h
 obtain ⟨x1, x2, x3, x4, x5, x6, x7, x8, x9, x10, x11, rfl⟩ := len11 g
 exact ⟨x0, x1, x2, x3, x4, x5, x6, x7, x8, x9, x10, x11, rfl⟩
theorem len13 {vs : List Value} (h : vs.length = 13) : ∃ x0 x1 x2 x3 x4 x5 x6 x7 x8 x9 x10 x11 x12, vs = [x0, x1, x2, x3, x4, x5, x6, x7, x8, x9, x10, x11, x12] := by
 obtain ⟨x0, t, rfl, g⟩ := len_cons h
 obtain ⟨x1, x2, x3, x4, x5, x6, x7, x8, x9, x10, x11, x12, rfl⟩ := len12 g
 exact ⟨x0, x1, x2, x3, x4, x5, x6, x7, x8, x9, x10, x11, x12, rfl⟩
theorem len14 {vs : List Value} (h : vs.length = 14) : ∃ x0 x1 x2 x3 x4 x5 x6 x7 x8 x9 x10 x11 x12 x13, vs = [x0, x1, x2, x3, x4, x5, x6, x7, x8, x9, x10, x11, x12, x13] := by
 obtain ⟨x0, t, rfl, g⟩ := len_cons h
 obtain ⟨x1, x2, x3, x4, x5, x6, x7, x8, x9, x10, x11, x12, x13, rfl⟩ := len13 g
 exact ⟨x0, x1, x2, x3, x4, x5, x6, x7, x8, x9, x10, x11, x12, x13, rfl⟩
theorem len15 {vs : List Value} (h : vs.length = 15) : ∃ x0 x1 x2 x3 x4 x5 x6 x7 x8 x9 x10 x11 x12 x13 x14, vs = [x0, x1, x2, x3, x4, x5, x6, x7, x8, x9, x10, x11, x12, x13, x14] := by
 obtain ⟨x0, t, rfl, g⟩ := len_cons h
 obtain ⟨x1, x2, x3, x4, x5, x6, x7, x8, x9, x10, x11, x12, x13, x14, rfl⟩ := len14 g
 exact ⟨x0, x1, x2, x3, x4, x5, x6, x7, x8, x9, x10, x11, x12, x13, x14, rfl⟩
theorem len16 {vs : List Value} (h : vs.length = 16) : ∃ x0 x1 x2 x3 x4 x5 x6 x7 x8 x9 x10 x11 x12 x13 x14 x15, vs = [x0, x1, x2, x3, x4, x5, x6, x7, x8, x9, x10, x11, x12, x13, x14, x15] := by
 obtain ⟨x0, t, rfl, g⟩ := len_cons h
 obtain ⟨x1, x2, x3, x4, x5, x6, x7, x8, x9, x10, x11, x12, x13, x14, x15, rfl⟩ := len15 g
 exact ⟨x0, x1, x2, x3, x4, x5, x6, x7, x8, x9, x10, x11, x12, x13, x14, x15, rfl⟩
end Go.Proofs.Ytfpgijihiifogaa
