/- GroupsLeft, ArrivalsOf, LettersOf: both texts. -/
import Derived.Test.YtnobkdkfhgjeeabTally
import Derived.Test.YtnobkdkfhgjeeabTallySpec
namespace Go.Proofs.Ytnobkdkfhgjeeab
open Go.RowKit

def groupsLeft (p : Pg) : List Int := if progValid p = true then tallyOf p.groups ofGroupsLeft p.threads else []
def arrivalsOf (p : Pg) : List Int := if progValid p = true then tallyOf (List.replicate p.barriers.length 0) ofArrivalsOf p.threads else []
def lettersOf (p : Pg) : List Int := if progValid p = true then tallyOf (List.replicate p.rooms.length 0) ofLettersOf p.threads else []
theorem groupsLeft_len {v : PV} {p : Pg} {w : World} (hr : RdP w v p) (hz : Small v p) : (groupsLeft p).length ≤ 1048576 := by
  unfold groupsLeft; split
  · rw [tallyOf_len, hr.lg]; exact hz.lg
  · simp
theorem arrivalsOf_len {v : PV} {p : Pg} {w : World} (hr : RdP w v p) (hz : Small v p) : (arrivalsOf p).length ≤ 1048576 := by
  unfold arrivalsOf; split
  · rw [tallyOf_len, List.length_replicate, hr.lb]; exact hz.lb
  · simp
theorem lettersOf_len {v : PV} {p : Pg} {w : World} (hr : RdP w v p) (hz : Small v p) : (lettersOf p).length ≤ 1048576 := by
  unfold lettersOf; split
  · rw [tallyOf_len, List.length_replicate, hr.lr]; exact hz.lr
  · simp
theorem rep_getD (n j : Nat) : -9 ≤ (List.replicate n (0 : Int)).getD j 0 ∧ (List.replicate n (0 : Int)).getD j 0 ≤ 9 := by
  have : (List.replicate n (0 : Int)).getD j 0 = 0 := by simp only [List.getD, List.getElem?_replicate]; split <;> rfl
  rw [this]; omega
theorem groups_small {p : Pg} (hv : progValid p = true) (j : Nat) : -9 ≤ p.groups.getD j 0 ∧ p.groups.getD j 0 ≤ 9 := by
  have hw : within p.groups 0 9 = true := by
    unfold progValid at hv
    simp only [Bool.and_eq_true] at hv
    exact hv.1.1.1.1.1.2
  unfold within at hw
  simp only [Bool.and_eq_true, decide_eq_true_eq, List.all_eq_true] at hw
  by_cases hj : j < p.groups.length
  · have e : p.groups.getD j 0 = p.groups[j] := by simp [List.getD, hj]
    have := hw.2 _ (List.getElem_mem hj)
    rw [e]; omega
  · have e : p.groups.getD j 0 = 0 := by simp [List.getD, Nat.le_of_not_lt hj]
    rw [e]; omega
theorem valid_on {p : Pg} {o : OpD} (ho : opValid p o = true) : 0 ≤ o.on ∧ o.on < shared p o.kind := (opValid_facts ho).2.1
theorem valid_add {p : Pg} {o : OpD} (ho : opValid p o = true) (hk : o.kind = 5) : -9 ≤ o.arg ∧ o.arg ≤ 9 := by
  have h3 := (opValid_facts ho).2.2
  unfold argOk at h3
  rw [if_neg (by omega), if_pos hk] at h3
  simpa using h3
theorem shared5 {p : Pg} {k : Int} (h : k = 5) : shared p k = p.groups.length := by unfold shared; rw [if_neg (by omega), if_neg (by omega), if_neg (by omega), if_pos (by omega)]
theorem shared7 {p : Pg} {k : Int} (h : k = 7) : shared p k = p.barriers.length := by unfold shared; rw [if_neg (by omega), if_neg (by omega), if_neg (by omega), if_neg (by omega), if_pos (by omega)]
theorem shared8 {p : Pg} {k : Int} (h : k = 8 ∨ k = 9) : shared p k = p.rooms.length := by unfold shared; rw [if_neg (by omega), if_neg (by omega), if_neg (by omega), if_neg (by omega), if_neg (by omega)]
theorem obGroupsLeft {p : Pg} (o : OpD) (ho : opValid p o = true) : (-9 ≤ ofGroupsLeft o ∧ ofGroupsLeft o ≤ 9) ∧ (ofGroupsLeft o ≠ 0 → 0 ≤ o.on ∧ o.on < p.groups.length) := by
  unfold ofGroupsLeft
  by_cases hk : o.kind = 5
  · rw [if_pos hk]
    exact ⟨valid_add ho hk, fun _ => by rw [← shared5 hk]; exact valid_on ho⟩
  · rw [if_neg hk]; simp
theorem obArrivalsOf {p : Pg} (o : OpD) (ho : opValid p o = true) : (-9 ≤ ofArrivalsOf o ∧ ofArrivalsOf o ≤ 9) ∧ (ofArrivalsOf o ≠ 0 → 0 ≤ o.on ∧ o.on < p.barriers.length) := by
  unfold ofArrivalsOf
  by_cases hk : o.kind = 7
  · rw [if_pos hk]
    exact ⟨by omega, fun _ => by rw [← shared7 hk]; exact valid_on ho⟩
  · rw [if_neg hk]; simp
theorem obLettersOf {p : Pg} (o : OpD) (ho : opValid p o = true) : (-9 ≤ ofLettersOf o ∧ ofLettersOf o ≤ 9) ∧ (ofLettersOf o ≠ 0 → 0 ≤ o.on ∧ o.on < p.rooms.length) := by
  unfold ofLettersOf
  by_cases h8 : o.kind = 8
  · rw [if_pos h8]
    exact ⟨by omega, fun _ => by rw [← shared8 (.inl h8)]; exact valid_on ho⟩
  · rw [if_neg h8]
    by_cases h9 : o.kind = 9
    · rw [if_pos h9]
      exact ⟨by omega, fun _ => by rw [← shared8 (.inr h9)]; exact valid_on ho⟩
    · rw [if_neg h9]; simp

set_option maxRecDepth 100000 in
set_option maxHeartbeats 1000000 in
theorem implArrivalsOf_any (n : Nat) (v : PV) (p : Pg) (w : World) (hn : (arrivalsOf p).length = n) (hr : RdP w v p) (hz : Small v p) :
    Calls Try.prog 24 #[.agg #[.slice v.s v.ns v.cs, .slice v.g v.ng v.cg, .slice v.b v.nb v.cb, .slice v.r v.nr v.cr, .slice v.t v.nt v.ct]] w fun e w' => ∃ a' c', e = .returned (.slice a' n c') ∧ w'.ownsRow w.heap.size 3 1 (.slice a' n c') n (ints (arrivalsOf p)) ∧ Below w.heap.size w w' := by
  have hs : v.ns ≤ maxLen ∧ v.ng ≤ maxLen ∧ v.nb ≤ maxLen ∧ v.nr ≤ maxLen := by
    obtain ⟨z1, z2, z3, z4, z5, z6⟩ := hz; unfold maxLen; omega
  have zz : Hid (v.ns ≤ maxLen ∧ v.ng ≤ maxLen ∧ v.nb ≤ maxLen ∧ v.nr ≤ maxLen) := Lib.hid hs
  have HZ := Lib.hid hz
  have z5 : v.nt ≤ 1048576 := hz.lt
  have Z6 := Lib.hid hz.inn
  have ls := Lib.hid hr.ls
  have lg := Lib.hid hr.lg
  have lb := Lib.hid hr.lb
  have lr := Lib.hid hr.lr
  have lt := Lib.hid hr.lt
  clear hz
  have B0 : Below w.heap.size w (w.alloc (.cells #[.slice v.s v.ns v.cs, .slice v.g v.ng v.cg, .slice v.b v.nb v.cb, .slice v.r v.nr v.cr, .slice v.t v.nt v.ct] 26)) := (Below.refl _ _).alloc (Nat.le_refl _) _
  have k0 : Blk (w.alloc (.cells #[.slice v.s v.ns v.cs, .slice v.g v.ng v.cg, .slice v.b v.nb v.cb, .slice v.r v.nr v.cr, .slice v.t v.nt v.ct] 26)) w.heap.size #[.slice v.s v.ns v.cs, .slice v.g v.ng v.cg, .slice v.b v.nb v.cb, .slice v.r v.nr v.cr, .slice v.t v.nt v.ct] 26 := Blk.new _ _ _
  have q0 : (w.alloc (.cells #[.slice v.s v.ns v.cs, .slice v.g v.ng v.cg, .slice v.b v.nb v.cb, .slice v.r v.nr v.cr, .slice v.t v.nt v.ct] 26)).cell? ⟨w.heap.size, 0, none⟩ = some (.slice v.s v.ns v.cs) := k0.cell 0 rfl
  have q1 : (w.alloc (.cells #[.slice v.s v.ns v.cs, .slice v.g v.ng v.cg, .slice v.b v.nb v.cb, .slice v.r v.nr v.cr, .slice v.t v.nt v.ct] 26)).cell? ⟨w.heap.size, 1, none⟩ = some (.slice v.g v.ng v.cg) := k0.cell 1 rfl
  have q2 : (w.alloc (.cells #[.slice v.s v.ns v.cs, .slice v.g v.ng v.cg, .slice v.b v.nb v.cb, .slice v.r v.nr v.cr, .slice v.t v.nt v.ct] 26)).cell? ⟨w.heap.size, 2, none⟩ = some (.slice v.b v.nb v.cb) := k0.cell 2 rfl
  have q3 : (w.alloc (.cells #[.slice v.s v.ns v.cs, .slice v.g v.ng v.cg, .slice v.b v.nb v.cb, .slice v.r v.nr v.cr, .slice v.t v.nt v.ct] 26)).cell? ⟨w.heap.size, 3, none⟩ = some (.slice v.r v.nr v.cr) := k0.cell 3 rfl
  have q4 : (w.alloc (.cells #[.slice v.s v.ns v.cs, .slice v.g v.ng v.cg, .slice v.b v.nb v.cb, .slice v.r v.nr v.cr, .slice v.t v.nt v.ct] 26)).cell? ⟨w.heap.size, 4, none⟩ = some (.slice v.t v.nt v.ct) := k0.cell 4 rfl
  clear k0
  obtain ⟨i0, hi0, hz0, hz1, hz2⟩ := info_parts info_int
  have hnb : v.nb ≤ 1048576 := HZ.out.lb
  have hmk : ∀ w', (Instr.makeSlice 23 (.int .i64 (v.nb : Nat)) (.int .i64 (v.nb : Nat))).run Try.prog w' = .ok (.slice (some ⟨w'.heap.size, 0, none⟩) v.nb v.nb) (w'.alloc (.cells (madeCells #[.int .i64 0] v.nb) 3)) := fun w' => by
    have := run_make (P := Try.prog) w' 23 3 i0 (.int .i64 0) Try.underlying23 hi0 hz0 .i64 .i64 (v.nb : Nat) (v.nb : Nat) (by omega) (by omega) (by rw [hz2]; omega) (by omega)
    rw [hz1, show (Value.int .i64 0).cells = #[.int .i64 0] from rfl] at this
    simpa using this
  have hmd : (madeCells #[.int .i64 0] v.nb).toList = ints (List.replicate v.nb 0) := by rw [toList_madeCells_one]; simp [ints]
  have HMD := Lib.hid hmd
  clear hmd
  rcases Bool.eq_false_or_eq_true (progValid p) with hv | hv
  · have HB : Hid (arrivalsOf p = tallyOf (List.replicate v.nb 0) ofArrivalsOf p.threads) := Lib.hid (by unfold arrivalsOf; rw [if_pos hv, hr.lb])
    obtain rfl : n = v.nb := by rw [← hn, HB.out, tallyOf_len, List.length_replicate]
    rw [HB.out]
    clear hn
    have HV := Lib.hid hv
    clear hv
    go_enter Try.func24, Try.ntmps24
    go_wp2
    obtain ⟨W0, hW0⟩ : ∃ W0 : World, W0 = (w.alloc (.cells #[.slice v.s v.ns v.cs, .slice v.g v.ng v.cg, .slice v.b v.nb v.cb, .slice v.r v.nr v.cr, .slice v.t v.nt v.ct] 26)) := ⟨_, rfl⟩
    rw [← hW0] at B0 q0 q1 q2 q3 q4 ⊢
    clear hW0
    have hS : ∀ w', Below W0.heap.size W0 w' → (w'.cell? ⟨w.heap.size, 0, none⟩ = some (.slice v.s v.ns v.cs) ∧ w'.cell? ⟨w.heap.size, 1, none⟩ = some (.slice v.g v.ng v.cg) ∧ w'.cell? ⟨w.heap.size, 2, none⟩ = some (.slice v.b v.nb v.cb) ∧ w'.cell? ⟨w.heap.size, 3, none⟩ = some (.slice v.r v.nr v.cr) ∧ w'.cell? ⟨w.heap.size, 4, none⟩ = some (.slice v.t v.nt v.ct)) ∧ Below W0.heap.size W0 w' := fun w' hb => ⟨⟨keepc hb q0, keepc hb q1, keepc hb q2, keepc hb q3, keepc hb q4⟩, hb⟩
    have hs1 := B0.size
    go_region_held3 (fun w' => (w'.cell? ⟨w.heap.size, 0, none⟩ = some (.slice v.s v.ns v.cs) ∧ w'.cell? ⟨w.heap.size, 1, none⟩ = some (.slice v.g v.ng v.cg) ∧ w'.cell? ⟨w.heap.size, 2, none⟩ = some (.slice v.b v.nb v.cb) ∧ w'.cell? ⟨w.heap.size, 3, none⟩ = some (.slice v.r v.nr v.cr) ∧ w'.cell? ⟨w.heap.size, 4, none⟩ = some (.slice v.t v.nt v.ct)) ∧ Below W0.heap.size W0 w') (first | exact hS _ ((Below.refl _ _).drew) | exact hS _ (((Below.refl _ _).drew).alloc (by simp) _) | exact hS _ (keepb (by assumption) (by assumption))) (first | (go_at_call 62; refine (implTally_yes _ ofArrivalsOf v p _ v.nb v.nb (List.replicate v.nb 0) _ (enters_of Try.func63 (by kernel_rfl) rfl) (hr.below (B0.trans ((And.right (by assumption : _ ∧ Below W0.heap.size W0 _)).mono B0.size))) HZ.out HV.out List.length_replicate HZ.out.lb (by have h := Rd.of_owns (World.ownsRow_lit (base := 0) (e := 3) (size := 1) W0.drew (madeCells #[.int .i64 0] v.nb) v.nb (Nat.zero_le _) (by unfold maxLen; omega) (by simp [madeCells])); rw [HMD.out] at h; exact h) (rep_getD _) (fun o w => ofArrivalsOf_any o w) (fun o ho => by have := obArrivalsOf (p := p) o ho; rw [lb.out] at this; exact this)).mono ?_; rintro e w1 ⟨a1, c1, rfl, hown, hb⟩))
    rename_i hSw
    have hb2 := hSw.2
    clear hSw hS hb
    go_wp2
    go_ret
    exact ⟨a1, c1, rfl, owns_mono hown (by simp; omega), B0.trans (hb2.mono hs1)⟩
  · have HB : Hid (arrivalsOf p = []) := Lib.hid (by unfold arrivalsOf; rw [if_neg (by rw [hv]; simp)])
    rw [HB.out] at hn ⊢
    obtain rfl : n = 0 := hn.symm
    have HV := Lib.hid hv
    clear hv
    go_enter Try.func24, Try.ntmps24
    go_wp2
    obtain ⟨W0, hW0⟩ : ∃ W0 : World, W0 = (w.alloc (.cells #[.slice v.s v.ns v.cs, .slice v.g v.ng v.cg, .slice v.b v.nb v.cb, .slice v.r v.nr v.cr, .slice v.t v.nt v.ct] 26)) := ⟨_, rfl⟩
    rw [← hW0] at B0 q0 q1 q2 q3 q4 ⊢
    clear hW0
    have hS : ∀ w', Below W0.heap.size W0 w' → (w'.cell? ⟨w.heap.size, 0, none⟩ = some (.slice v.s v.ns v.cs) ∧ w'.cell? ⟨w.heap.size, 1, none⟩ = some (.slice v.g v.ng v.cg) ∧ w'.cell? ⟨w.heap.size, 2, none⟩ = some (.slice v.b v.nb v.cb) ∧ w'.cell? ⟨w.heap.size, 3, none⟩ = some (.slice v.r v.nr v.cr) ∧ w'.cell? ⟨w.heap.size, 4, none⟩ = some (.slice v.t v.nt v.ct)) ∧ Below W0.heap.size W0 w' := fun w' hb => ⟨⟨keepc hb q0, keepc hb q1, keepc hb q2, keepc hb q3, keepc hb q4⟩, hb⟩
    go_region_held3 (fun w' => (w'.cell? ⟨w.heap.size, 0, none⟩ = some (.slice v.s v.ns v.cs) ∧ w'.cell? ⟨w.heap.size, 1, none⟩ = some (.slice v.g v.ng v.cg) ∧ w'.cell? ⟨w.heap.size, 2, none⟩ = some (.slice v.b v.nb v.cb) ∧ w'.cell? ⟨w.heap.size, 3, none⟩ = some (.slice v.r v.nr v.cr) ∧ w'.cell? ⟨w.heap.size, 4, none⟩ = some (.slice v.t v.nt v.ct)) ∧ Below W0.heap.size W0 w') (first | exact hS _ ((Below.refl _ _).drew) | exact hS _ (((Below.refl _ _).drew).alloc (by simp) _) | exact hS _ (keepb (by assumption) (by assumption))) (first | (go_at_call 62; refine (implTally_no _ v p _ _ _ _ (hr.below (B0.trans ((And.right (by assumption : _ ∧ Below W0.heap.size W0 _)).mono B0.size))) HZ.out HV.out).mono ?_; rintro e w1 ⟨rfl, hb⟩))
    rename_i w9 hSw
    have hb := hSw.2
    clear hSw hS
    go_wp2
    go_ret
    exact ⟨none, 0, rfl, World.ownsRow_nil _ _ _ _, B0.trans (hb.mono B0.size)⟩

end Go.Proofs.Ytnobkdkfhgjeeab
