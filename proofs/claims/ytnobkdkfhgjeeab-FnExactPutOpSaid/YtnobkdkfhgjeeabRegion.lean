/- A region that draws its order, walked once: what each operation leaves is said by a predicate on its value and the world, and these predicates outlast the other operations' steps. No program in sight. -/
import Derived.Test.YtnobkdkfhgjeeabLib3
import Derived.StillTail
namespace Go.Proofs.Ytnobkdkfhgjeeab
open Go.RowKit

/-- What an operation gives: a value and a world. -/
def gives (P : Program) (o : Oper) (ρ : Operand → Value) (w : World) (post : Value → World → Prop) : Prop :=
  match (execOp ρ o).run P w with
  | .ok (.value u) w' => post u w'
  | .ok .skip w' => post undef w'
  | .ok (.enter f args) w' => Calls P f args w' (fun e w'' => ∃ u, e = .returned u ∧ post u w'')
  | _ => False

theorem wp_of_gives {P : Program} {o : Oper} {a : Act} {w : World} {post : Value → World → Prop} {Q : Exit → Act → World → Prop} {K : Act → World → Prop} (h : gives P o a.eval w post) (hK : ∀ u w', post u w' → K (a.put o.dst u) w') : o.wp P a w K Q := by
  unfold gives at h
  unfold Oper.wp
  generalize (execOp a.eval o).run P w = r at h ⊢
  cases r with
  | ok n w' =>
    cases n with
    | value u => exact hK _ _ h
    | skip => exact hK _ _ h
    | enter f args =>
      refine Calls.mono h fun e w'' he => ?_
      obtain ⟨u, rfl, hp⟩ := he
      exact hK _ _ hp
    | _ => exact h.elim
  | halt x w' => exact h.elim

/-- The predicate number i: on the values that the operation waits for, its own value, and the world. -/
def at' (Rs : List (List Value → Value → World → Prop)) (i : Nat) : List Value → Value → World → Prop := Rs.getD i (fun _ _ _ => True)
/-- What an operation waits for. -/
def waits (o : Oper) : List Nat := (o.after.toList.filter (Region.binds .any)).map (·.on)
/-- Operation j's value, in a frame. -/
def slotAt (l : List Oper) (ρ : Operand → Value) (j : Nat) : Value :=
  match (l[j]?).bind (·.dst) with
  | some d => ρ (.tmp d)
  | none => undef
def depVals (l : List Oper) (ρ : Operand → Value) (o : Oper) : List Value := (waits o).map (slotAt l ρ)
/-- What is known of operation j's value, in a frame. -/
def knows (l : List Oper) (Rs : List (List Value → Value → World → Prop)) (ρ : Operand → Value) (w : World) (j : Nat) : Prop :=
  match l[j]? with
  | some o => at' Rs j (depVals l ρ o) (slotAt l ρ j) w
  | none => True
def knowAll (l : List Oper) (Rs : List (List Value → Value → World → Prop)) (ρ : Operand → Value) (w : World) : List Nat → Prop
  | [] => True
  | j :: r => knows l Rs ρ w j ∧ knowAll l Rs ρ w r
theorem knowAll_of {l : List Oper} {Rs : List (List Value → Value → World → Prop)} {ρ : Operand → Value} {w : World} : ∀ {js : List Nat}, (∀ j ∈ js, knows l Rs ρ w j) → knowAll l Rs ρ w js
  | [], _ => trivial
  | j :: r, h => ⟨h j (by simp), knowAll_of (fun k hk => h k (by simp [hk]))⟩

/-- The operands that the region does not write. -/
def outer (l : List Oper) (x : Operand) : Bool :=
  match x with
  | .tmp t => !(l.any fun o => o.dst == some t)
  | _ => true

/-- What is kept of an operation's value. -/
def kept (o : Oper) (u : Value) : Value := match o.dst with | some _ => u | none => undef

/-- Each operation's step: what it does to the world is St's; its value's own block, if it is to have one, is new. 'L' tells which operations are done: none that waits for this one is. -/
def Steps (P : Program) (l : List Oper) (Rs : List (List Value → Value → World → Prop)) (St : Nat → World → World → Prop) (Bk : Nat → Value → Option Nat) (G : (Nat → Bool) → World → Prop) (ρ0 : Operand → Value) : List Oper → Nat → Prop
  | [], _ => True
  | o :: os, i => (∀ ρ w L, G L w → (∀ j p, l[j]? = some p → (j == i || (waits p).contains i) = true → L j = false) → (∀ x, outer l x = true → ρ x = ρ0 x) → knowAll l Rs ρ w (waits o) → gives P o ρ w (fun u w' => St i w w' ∧ at' Rs i (depVals l ρ o) (kept o u) w' ∧ (∀ k, Bk i (kept o u) = some k → w.heap.size ≤ k ∧ k < w'.heap.size) ∧ G (fun j => decide (j = i) || L j) w')) ∧ Steps P l Rs St Bk G ρ0 os (i + 1)

theorem Steps.at {P : Program} {l : List Oper} {Rs : List (List Value → Value → World → Prop)} {St : Nat → World → World → Prop} {Bk : Nat → Value → Option Nat} {G : (Nat → Bool) → World → Prop} {ρ0 : Operand → Value} : ∀ {os : List Oper} {k i : Nat} {o : Oper}, Steps P l Rs St Bk G ρ0 os k → os[i]? = some o →
    ∀ ρ w L, G L w → (∀ j p, l[j]? = some p → (j == k + i || (waits p).contains (k + i)) = true → L j = false) → (∀ x, outer l x = true → ρ x = ρ0 x) → knowAll l Rs ρ w (waits o) → gives P o ρ w (fun u w' => St (k + i) w w' ∧ at' Rs (k + i) (depVals l ρ o) (kept o u) w' ∧ (∀ j, Bk (k + i) (kept o u) = some j → w.heap.size ≤ j ∧ j < w'.heap.size) ∧ G (fun j => decide (j = k + i) || L j) w')
  | [], _, i, o, _, h => by simp at h
  | p :: os, k, 0, o, hs, h => by
    obtain rfl : p = o := by simpa using h
    simpa using hs.1
  | p :: os, k, i + 1, o, hs, h => by
    have := Steps.at (i := i) (k := k + 1) hs.2 (by simpa using h)
    rw [show k + 1 + i = k + (i + 1) by omega] at this
    exact this

/-- The same where memory is made at most, and the worlds' invariant does not ask what is done. -/
def StepsF (P : Program) (l : List Oper) (Rs : List (List Value → Value → World → Prop)) (Bk : Nat → Value → Option Nat) (G : World → Prop) (ρ0 : Operand → Value) : List Oper → Nat → Prop
  | [], _ => True
  | o :: os, i => (∀ ρ w, G w → (∀ x, outer l x = true → ρ x = ρ0 x) → knowAll l Rs ρ w (waits o) → gives P o ρ w (fun u w' => Below w.heap.size w w' ∧ at' Rs i (depVals l ρ o) (kept o u) w' ∧ (∀ k, Bk i (kept o u) = some k → w.heap.size ≤ k ∧ k < w'.heap.size) ∧ G w')) ∧ StepsF P l Rs Bk G ρ0 os (i + 1)
theorem StepsF.to {P : Program} {l : List Oper} {Rs : List (List Value → Value → World → Prop)} {Bk : Nat → Value → Option Nat} {G : World → Prop} {ρ0 : Operand → Value} : ∀ {os : List Oper} {k : Nat}, StepsF P l Rs Bk G ρ0 os k → Steps P l Rs (fun _ w w' => Below w.heap.size w w') Bk (fun _ w => G w) ρ0 os k
  | [], _, _ => trivial
  | _ :: _, _, h => ⟨fun ρ w _ hG _ => h.1 ρ w hG, StepsF.to h.2⟩

/-- The frame behind the region. -/
def putAll : List Oper → Act → List Value → Act
  | [], a, _ => a
  | o :: os, a, v :: vs => putAll os (a.put o.dst v) vs
  | o :: os, a, [] => putAll os (a.put o.dst undef) []
/-- All predicates, at the values 'vs' of all the operations. -/
def All (Rs : List (List Value → Value → World → Prop)) (vs : List Value) (w : World) : List Oper → Nat → Prop
  | [], _ => True
  | o :: os, i => at' Rs i ((waits o).map fun j => vs.getD j undef) (vs.getD i undef) w ∧ All Rs vs w os (i + 1)

def slotOf (a : Act) (o : Oper) : Value := match o.dst with | some d => a.tmps.getD d undef | none => undef

theorem putAll_size : ∀ (l : List Oper) (a : Act) (vs : List Value), (putAll l a vs).tmps.size = a.tmps.size
  | [], _, _ => rfl
  | o :: os, a, v :: vs => by rw [putAll, putAll_size]; cases h : o.dst <;> simp [Act.put]
  | o :: os, a, [] => by rw [putAll, putAll_size]; cases h : o.dst <;> simp [Act.put]
theorem putAll_defers : ∀ (l : List Oper) (a : Act) (vs : List Value), (putAll l a vs).defers = a.defers
  | [], _, _ => rfl
  | o :: os, a, v :: vs => by rw [putAll, putAll_defers]; cases h : o.dst <;> simp [Act.put]
  | o :: os, a, [] => by rw [putAll, putAll_defers]; cases h : o.dst <;> simp [Act.put]
theorem putAll_other : ∀ (l : List Oper) (a : Act) (vs : List Value) (t : Nat), (∀ o ∈ l, o.dst ≠ some t) → (putAll l a vs).tmps[t]? = a.tmps[t]?
  | [], _, _, _, _ => rfl
  | o :: os, a, v :: vs, t, h => by
    rw [putAll, putAll_other os _ vs t (fun p hp => h p (by simp [hp]))]
    have := h o (by simp)
    cases hd : o.dst with
    | none => rfl
    | some d => simp only [Act.put]; rw [Array.getElem?_setIfInBounds_ne (fun e => this (by rw [hd, e]))]
  | o :: os, a, [], t, h => by
    rw [putAll, putAll_other os _ [] t (fun p hp => h p (by simp [hp]))]
    have := h o (by simp)
    cases hd : o.dst with
    | none => rfl
    | some d => simp only [Act.put]; rw [Array.getElem?_setIfInBounds_ne (fun e => this (by rw [hd, e]))]
/-- A frame that agrees with 'a' outside what the region writes is the frame that its own slots' values make of 'a'. -/
theorem putAll_self (b : Act) : ∀ (l : List Oper) (a : Act), a.tmps.size = b.tmps.size → a.defers = b.defers → (∀ t, (∀ o ∈ l, o.dst ≠ some t) → b.tmps[t]? = a.tmps[t]?) → putAll l a (l.map (slotOf b)) = b
  | [], a, hs, hd, h => by
    rw [List.map_nil, putAll]
    obtain ⟨ta, da⟩ := a
    obtain ⟨tb, db⟩ := b
    simp only at hs hd h
    rw [hd]
    congr 1
    exact Array.ext_getElem? fun t => (h t (by simp)).symm
  | o :: os, a, hs, hd, h => by
    rw [List.map_cons, putAll]
    refine putAll_self b os _ ?_ ?_ ?_
    · cases ho : o.dst <;> simp [Act.put, hs]
    · cases ho : o.dst <;> simp [Act.put, hd]
    · intro t ht
      cases ho : o.dst with
      | none =>
        simp only [Act.put]
        refine h t (fun p hp => ?_)
        rcases List.mem_cons.1 hp with e | e
        · rw [e, ho]; simp
        · exact ht p e
      | some d =>
        simp only [Act.put]
        by_cases hdt : d = t
        · subst hdt
          by_cases hlt : d < a.tmps.size
          · have hlb : d < b.tmps.size := by rw [← hs]; exact hlt
            rw [Array.getElem?_setIfInBounds_self_of_lt hlt]
            simp [slotOf, ho, hlb]
          · have hlb : b.tmps.size ≤ d := by rw [← hs]; exact Nat.le_of_not_lt hlt
            rw [Array.getElem?_eq_none hlb, Array.getElem?_eq_none (by simpa using Nat.le_of_not_lt hlt)]
        · rw [Array.getElem?_setIfInBounds_ne hdt]
          exact h t (fun p hp => by
            rcases List.mem_cons.1 hp with e | e
            · rw [e, ho]; exact fun hh => hdt (by simpa using hh)
            · exact ht p e)

/-- No two operations write one slot. -/
def distinct : List Oper → Bool
  | [] => true
  | o :: os => (match o.dst with | some d => !(os.any fun p => p.dst == some d) | none => true) && distinct os
theorem distinct_ne : ∀ {l : List Oper}, distinct l = true → ∀ {i j : Nat} {o p : Oper} {d : Tmp}, l[i]? = some o → l[j]? = some p → i ≠ j → o.dst = some d → p.dst ≠ some d
  | [], _, i, _, _, _, _, h, _, _, _ => by simp at h
  | q :: os, hd, i, j, o, p, d, hi, hj, hne, ho => by
    simp only [distinct, Bool.and_eq_true] at hd
    intro hp
    cases i with
    | zero =>
      cases j with
      | zero => exact hne rfl
      | succ j =>
        obtain rfl : q = o := by simpa using hi
        rw [ho] at hd
        have hm : p ∈ os := List.mem_of_getElem? (by simpa using hj)
        have : (os.any fun x => x.dst == some d) = true := List.any_eq_true.2 ⟨p, hm, by simp [hp]⟩
        simp [this] at hd
    | succ i =>
      cases j with
      | zero =>
        obtain rfl : q = p := by simpa using hj
        rw [hp] at hd
        have hm : o ∈ os := List.mem_of_getElem? (by simpa using hi)
        have : (os.any fun x => x.dst == some d) = true := List.any_eq_true.2 ⟨o, hm, by simp [ho]⟩
        simp [this] at hd
      | succ j => exact distinct_ne hd.2 (by simpa using hi) (by simpa using hj) (by omega) ho hp

structure RInv (l h : List Oper) (n : Nat) (Rs : List (List Value → Value → World → Prop)) (Bk : Nat → Value → Option Nat) (G : (Nat → Bool) → World → Prop) (a0 : Act) (fuel : Nat) (listed : Array Bool) (a : Act) (w : World) : Prop where
  inv : HeadInv .any l.toArray n listed
  left : ((listed.toList.take n).filter (· == false)).length = fuel
  good : G (fun j => listed.getD j false) w
  frame : a0.tmps.size = a.tmps.size
  defs : a0.defers = a.defers
  same : ∀ t, (∀ j o, h[j]? = some o → listed.getD j false = true → o.dst ≠ some t) → a.tmps[t]? = a0.tmps[t]?
  know : ∀ j, j < h.length → listed.getD j false = true → knows h Rs a.eval w j
  bound : ∀ j o, h[j]? = some o → listed.getD j false = true → ∀ k, Bk j (slotOf a o) = some k → k < w.heap.size
  apart : ∀ i j o p, h[i]? = some o → h[j]? = some p → i ≠ j → listed.getD i false = true → listed.getD j false = true → ∀ k, Bk i (slotOf a o) = some k → Bk j (slotOf a p) ≠ some k

theorem filter_set : ∀ (l : List Bool) (n i : Nat), i < n → l[i]? = some false → (((l.set i true).take n).filter (· == false)).length + 1 = ((l.take n).filter (· == false)).length
  | [], _, i, _, h => by simp at h
  | b :: l, 0, i, hi, _ => by omega
  | b :: l, n + 1, 0, _, h => by
    obtain rfl : b = false := by simpa using h
    simp
  | b :: l, n + 1, i + 1, hi, h => by
    have := filter_set l n i (by omega) (by simpa using h)
    simp only [List.set_cons_succ, List.take_succ_cons]
    cases b
    · simp only [List.filter_cons, beq_self_eq_true, if_true, List.length_cons]; omega
    · simpa [List.filter_cons] using this

/-- The first n are listed, and no other. -/
def headListed (m n : Nat) : Array Bool := ((List.range m).map (fun i => decide (i < n))).toArray

theorem listed_eq {l : List Oper} {n : Nat} {listed : Array Bool} (inv : HeadInv .any l.toArray n listed) (hn : n ≤ l.length) (h : ((listed.toList.take n).filter (· == false)).length = 0) : listed = headListed l.length n := by
  have hs : listed.size = l.length := by have := inv.size; simpa using this
  apply Array.ext_getElem?
  intro i
  unfold headListed
  by_cases hi : i < l.length
  · have e1 : listed[i]? = some (listed[i]'(by omega)) := by simp [show i < listed.size by omega]
    rw [e1]
    simp only [List.getElem?_toArray, List.getElem?_map, List.getElem?_range hi, Option.map_some]
    congr 1
    by_cases hin : i < n
    · rw [decide_eq_true hin]
      have h0 := List.eq_nil_of_length_eq_zero h
      rw [List.filter_eq_nil_iff] at h0
      have hm : listed[i]'(by omega) ∈ listed.toList.take n := by
        rw [List.mem_take_iff_getElem]
        exact ⟨i, by simp; omega, by simp⟩
      have := h0 _ hm
      simpa using this
    · rw [decide_eq_false hin]
      have := inv.tail i (by omega) (by simpa using hi)
      simpa [show i < listed.size by omega] using this
  · rw [Array.getElem?_eq_none (by omega)]
    simp [Nat.le_of_not_lt hi]

/-- Each operation waits for earlier ones alone. -/
def early (l : List Oper) : Bool := (List.range l.length).all fun i => match l[i]? with | some o => (waits o).all fun j => decide (j < i) | none => true

/-- What is asked of the region's text. -/
def fits (l : List Oper) (n m : Nat) : Bool :=
  (l.all fun o => o.guard.isNone) && distinct (l.take n) && ((l.take n).all fun o => match o.dst with | some d => decide (d < m) | none => true) && early l && decide (n ≤ l.length) &&
  (decide (n = l.length) || (Region.sinkB .any l.toArray n && Region.chainB .any l.toArray n)) && Region.seqB .any l.toArray (l.length - n) n (headListed l.length n)

/-- The values' own blocks are apart. -/
def Apart' (Bk : Nat → Value → Option Nat) (vs : List Value) : Prop := ∀ i j, i < vs.length → j < vs.length → i ≠ j → ∀ k, Bk i (vs.getD i undef) = some k → Bk j (vs.getD j undef) ≠ some k
def Bounded (Bk : Nat → Value → Option Nat) (vs : List Value) (w : World) : Prop := ∀ i, i < vs.length → ∀ k, Bk i (vs.getD i undef) = some k → k < w.heap.size

theorem least_of (p : Nat → Prop) : ∀ i, p i → ∃ i, p i ∧ ∀ k, k < i → ¬ p k := by
  intro i
  induction i using Nat.strongRecOn with
  | _ i ih =>
    intro hi
    by_cases h : ∃ k, k < i ∧ p k
    · obtain ⟨k, hk, hp⟩ := h
      exact ih k hk hp
    · exact ⟨i, hi, fun k hk hp => h ⟨k, hk, hp⟩⟩

theorem slotAt_eq {h : List Oper} {a : Act} {j : Nat} {o : Oper} (hj : h[j]? = some o) : slotAt h a.eval j = slotOf a o := by
  unfold slotAt slotOf
  rw [hj]
  cases ho : o.dst <;> simp [ho, Act.eval]
theorem knows_iff {h : List Oper} {Rs : List (List Value → Value → World → Prop)} {a : Act} {w : World} {j : Nat} {o : Oper} (hj : h[j]? = some o) : knows h Rs a.eval w j ↔ at' Rs j (depVals h a.eval o) (slotOf a o) w := by
  unfold knows
  rw [hj, ← slotAt_eq hj]

set_option maxHeartbeats 2000000 in
theorem wpAny_steps {P : Program} {l h : List Oper} {n : Nat} {Rs : List (List Value → Value → World → Prop)} {St : Nat → World → World → Prop} {Bk : Nat → Value → Option Nat} {G : (Nat → Bool) → World → Prop} {a0 : Act} {Q : Exit → Act → World → Prop}
    (hh : h = l.take n) (hf : fits l n a0.tmps.size = true)
    (hgrow : ∀ i w w', St i w w' → w.heap.size ≤ w'.heap.size) (hst : ∀ i j ds v w w', i ≠ j → St i w w' → at' Rs j ds v w → at' Rs j ds v w')
    (hsteps : Steps P h Rs St Bk G a0.eval h 0)
    (hend : ∀ (vs : List Value) w L, G L w → vs.length = n → All Rs vs w h 0 → Apart' Bk vs → Bounded Bk vs w → wpList P l.toArray Q (l.drop n) (putAll h a0 vs) w) :
    ∀ (fuel : Nat) (listed : Array Bool) (a : Act) (w : World), RInv l h n Rs Bk G a0 fuel listed a w → wpAny P .any l.toArray Q (fuel + (l.length - n)) listed a w := by
  simp only [fits, Bool.and_eq_true, decide_eq_true_eq] at hf
  obtain ⟨⟨⟨⟨⟨⟨hg, hd⟩, hin⟩, hearly⟩, hn⟩, hsink⟩, hseq⟩ := hf
  rw [← hh] at hd hin
  have hhl : h.length = n := by rw [hh]; simp [hn]
  have hget : ∀ j, j < n → h[j]? = l[j]? := fun j hj => by rw [hh]; simp [hj]
  have hearly' : ∀ i o, l[i]? = some o → ∀ e ∈ o.after, Region.binds .any e = true → e.on < i := by
    intro i o hi e he hb
    have hil : i < l.length := (List.getElem?_eq_some_iff.1 hi).1
    have h1 := List.all_eq_true.1 hearly i (List.mem_range.2 hil)
    rw [hi] at h1
    have h2 := List.all_eq_true.1 h1 e.on (by unfold waits; exact List.mem_map.2 ⟨e, List.mem_filter.2 ⟨by simpa using he, hb⟩, rfl⟩)
    simpa using h2
  intro fuel
  induction fuel with
  | zero =>
    intro listed a w hI
    have hL := listed_eq hI.inv hn hI.left
    have hall : ∀ j, j < n → listed.getD j false = true := by
      intro j hj
      rw [hL]; simp [headListed, hj, show j < l.length by omega]
    have e : putAll h a0 (h.map (slotOf a)) = a := putAll_self a h a0 hI.frame hI.defs fun t ht => hI.same t fun j o hj _ => ht o (List.mem_of_getElem? hj)
    have hvs : ∀ j, slotAt h a.eval j = (h.map (slotOf a)).getD j undef := by
      intro j
      by_cases hj : j < h.length
      · rw [slotAt_eq (o := h[j]) (by simp [hj])]; simp [List.getD, hj]
      · unfold slotAt; simp [List.getD, Nat.le_of_not_lt hj]
    have hAll : ∀ (os : List Oper) (k : Nat), (∀ i, os[i]? = h[k + i]?) → All Rs (h.map (slotOf a)) w os k := by
      intro os
      induction os with
      | nil => intro k _; trivial
      | cons o os ih =>
        intro k hk
        have h0 : h[k]? = some o := by have := hk 0; simpa using this.symm
        refine ⟨?_, ih (k + 1) (fun i => by have := hk (i + 1); rw [show k + 1 + i = k + (i + 1) by omega]; simpa using this)⟩
        have hlt : k < h.length := (List.getElem?_eq_some_iff.1 h0).1
        have := (knows_iff h0).1 (hI.know k hlt (hall k (by omega)))
        rw [← slotAt_eq h0, hvs k] at this
        have e : depVals h a.eval o = (waits o).map fun j => (h.map (slotOf a)).getD j undef := List.map_congr_left fun j _ => hvs j
        rw [e] at this
        exact this
    have hsl : ∀ j, j < h.length → ∃ o, h[j]? = some o ∧ (h.map (slotOf a)).getD j undef = slotOf a o := by
      intro j hj
      exact ⟨h[j], by simp [hj], by simp [List.getD, hj]⟩
    have hfin := hend (h.map (slotOf a)) w _ hI.good (by simp [hhl]) (hAll h 0 (by simp)) (by
      intro i j hi hj hne k hk
      simp only [List.length_map] at hi hj
      obtain ⟨o, ho, eo⟩ := hsl i hi
      obtain ⟨p, hp, ep⟩ := hsl j hj
      rw [eo] at hk
      rw [ep]
      exact hI.apart i j o p ho hp hne (hall i (by omega)) (hall j (by omega)) k hk) (by
      intro i hi k hk
      simp only [List.length_map] at hi
      obtain ⟨o, ho, eo⟩ := hsl i hi
      rw [eo] at hk
      exact hI.bound i o ho (hall i (by omega)) k hk)
    rw [e] at hfin
    have hdl : (l.drop n).length = l.length - n := by simp
    have := wpAny_of_seq (md := .any) (Q' := Q) (l.drop n) n listed a w (fun j => by simp [List.getElem?_drop]) (by rw [hdl, hL]; exact hseq) hfin
    rw [Nat.zero_add]
    rwa [hdl] at this
  | succ fuel ih =>
    intro listed a w hI
    -- some operation of the head is not listed; the first of them is ready
    have hex : ∃ i, i < n ∧ listed.getD i true = false := by
      have hne : (listed.toList.take n).filter (· == false) ≠ [] := fun h0 => by have := hI.left; rw [h0] at this; simp at this
      obtain ⟨b, hb⟩ := List.exists_mem_of_ne_nil _ hne
      obtain ⟨hb1, hb2⟩ := List.mem_filter.1 hb
      obtain ⟨i, hi, e⟩ := List.mem_iff_getElem.1 hb1
      simp only [List.length_take, Array.length_toList] at hi
      refine ⟨i, by omega, ?_⟩
      have : listed[i]'(by omega) = b := by simpa using e
      simp only [beq_iff_eq] at hb2
      simp [show i < listed.size by omega, this, hb2]
    have hsz : listed.size = l.length := by have := hI.inv.size; simpa using this
    have hready : Region.ready .any l.toArray listed ≠ [] := by
      have hmin : ∃ i, (i < n ∧ listed.getD i true = false) ∧ ∀ k, k < i → ¬ (k < n ∧ listed.getD k true = false) := by
        obtain ⟨i, hi⟩ := hex
        exact least_of (fun i => i < n ∧ listed.getD i true = false) i hi
      obtain ⟨i, ⟨hi, hu⟩, hmin⟩ := hmin
      obtain ⟨o, ho⟩ : ∃ o, l[i]? = some o := ⟨l[i]'(by omega), by simp [show i < l.length by omega]⟩
      have : i ∈ Region.ready .any l.toArray listed := mem_ready.2 ⟨hu, o, by simpa using ho, fun e he hb => by
        have hlt := hearly' i o ho e he hb
        have := hmin e.on hlt
        have h2 : listed.getD e.on true ≠ false := fun h0 => this ⟨by omega, h0⟩
        simp only [Bool.not_eq_false] at h2
        have h3 : e.on < listed.size := by omega
        simpa [h3] using h2⟩
      intro h0
      rw [h0] at this
      cases this
    rw [show fuel + 1 + (l.length - n) = (fuel + (l.length - n)) + 1 by omega]
    refine ⟨fun h0 => absurd h0 hready, fun i hi => ?_⟩
    obtain ⟨hu, o, ho, hdeps⟩ := mem_ready.1 hi
    have hol : l[i]? = some o := by simpa using ho
    have hil : i < l.length := (List.getElem?_eq_some_iff.1 hol).1
    have hin' : i < n := by
      rcases Nat.lt_or_ge i n with hlt | hge
      · exact hlt
      · exfalso
        obtain ⟨i0, hi0, hu0⟩ := hex
        simp only [Bool.or_eq_true, decide_eq_true_eq, Bool.and_eq_true] at hsink
        rcases hsink with hsink | ⟨hs, hc⟩
        · omega
        · exact tail_waits hs hc (by simpa using (show n < l.length by omega)) hI.inv _ i0 rfl hi0 hu0 i hge hi
    have hoh : h[i]? = some o := by rw [hget i hin']; exact hol
    have hmem : o ∈ l := List.mem_of_getElem? hol
    have hgo : o.guard = none := by
      have := List.all_eq_true.1 hg o hmem
      simpa using this
    unfold wpOp
    rw [ho]
    have hw : Region.wanted o (yielded l.toArray a.tmps) = true := by simp [Region.wanted, hgo]
    simp only [hw, if_true]
    refine .inl ?_
    have hlt : i < listed.size := by omega
    have hfalse : listed[i] = false := by
      have : listed.getD i true = listed[i] := by simp [hlt]
      rw [← this]; exact hu
    have hK : knowAll h Rs a.eval w (waits o) := by
      refine knowAll_of fun j hj => ?_
      unfold waits at hj
      obtain ⟨e, he, rfl⟩ := List.mem_map.1 hj
      obtain ⟨he1, he2⟩ := List.mem_filter.1 he
      have hl := hdeps e (by simpa using he1) he2
      have hjl := hearly' i o hol e (by simpa using he1) he2
      exact hI.know e.on (by omega) hl
    have hout : ∀ x, outer h x = true → a.eval x = a0.eval x := by
      intro x hx
      cases x with
      | tmp t =>
        have hn : ∀ o' ∈ h, o'.dst ≠ some t := by
          intro o' ho' e
          simp only [outer, Bool.not_eq_true', List.any_eq_false] at hx
          exact hx o' ho' (by simp [e])
        have := hI.same t (fun j o' hj _ => hn o' (List.mem_of_getElem? hj))
        simp only [Act.eval]
        rw [Array.getD_eq_getD_getElem?, Array.getD_eq_getD_getElem?, this]
      | _ => rfl
    have hny : ∀ j p, h[j]? = some p → (j == i || (waits p).contains i) = true → listed.getD j false = false := by
      intro j p hj hc
      by_cases hji : j = i
      · subst hji; exact getD_both hu
      replace hc : (waits p).contains i = true := by simpa [hji] using hc
      cases hlj : listed.getD j false with
      | false => rfl
      | true =>
        exfalso
        have hjn : j < n := by rw [← hhl]; exact (List.getElem?_eq_some_iff.1 hj).1
        have hpl : l[j]? = some p := by rw [← hget j hjn]; exact hj
        have hm : i ∈ waits p := by simpa using hc
        unfold waits at hm
        obtain ⟨e, he, heq⟩ := List.mem_map.1 hm
        obtain ⟨he1, he2⟩ := List.mem_filter.1 he
        have := hI.inv.closed j p (by simpa using hpl) hlj e (by simpa using he1) he2
        rw [heq] at this
        have h2 : listed.getD i false = false := getD_both hu
        rw [h2] at this; cases this
    have hstep := Steps.at (k := 0) hsteps hoh a.eval w _ hI.good (by rw [Nat.zero_add]; exact hny) hout hK
    rw [Nat.zero_add] at hstep
    refine wp_of_gives hstep fun u w' hp => ih _ _ _ ?_
    obtain ⟨hS, hR, hB, hG⟩ := hp
    have hgs : ∀ j, (listed.setIfInBounds i true).getD j false = true → j = i ∨ (j ≠ i ∧ listed.getD j false = true) := by
      intro j hj
      by_cases e : j = i
      · exact .inl e
      · right
        refine ⟨e, ?_⟩
        have : (listed.setIfInBounds i true).getD j false = listed.getD j false := by
          rw [Array.getD_eq_getD_getElem?, Array.getD_eq_getD_getElem?, Array.getElem?_setIfInBounds_ne (fun h => e h.symm)]
        rw [← this]; exact hj
    have hdl : ∀ d, o.dst = some d → d < a.tmps.size := by
      intro d hod
      have := List.all_eq_true.1 hin o (List.mem_of_getElem? hoh)
      rw [hod] at this
      rw [← hI.frame]; simpa using this
    have hself : slotOf (a.put o.dst u) o = kept o u := by
      unfold slotOf kept
      cases hod : o.dst with
      | none => rfl
      | some d => simp [Act.put, hdl d hod]
    have hslot : ∀ j p, h[j]? = some p → j ≠ i → slotOf (a.put o.dst u) p = slotOf a p := by
      intro j p hj hne
      unfold slotOf
      cases hpd : p.dst with
      | none => rfl
      | some d =>
        cases hod : o.dst with
        | none => rfl
        | some d' =>
          have hdd := distinct_ne hd hoh hj (fun e => hne e.symm) hod
          have hne' : d' ≠ d := fun e => hdd (by rw [hpd, e])
          simp [Act.put, Array.getElem?_setIfInBounds_ne hne']
    have hdep : ∀ j p, l[j]? = some p → j < n → (∀ e ∈ p.after, Region.binds .any e = true → e.on ≠ i) → depVals h (a.put o.dst u).eval p = depVals h a.eval p := by
      intro j p hj hjn hno
      refine List.map_congr_left fun k hk => ?_
      unfold waits at hk
      obtain ⟨e, he, rfl⟩ := List.mem_map.1 hk
      obtain ⟨he1, he2⟩ := List.mem_filter.1 he
      have hke := hearly' j p hj e (by simpa using he1) he2
      obtain ⟨q, hq⟩ : ∃ q, h[e.on]? = some q := ⟨h[e.on]'(by omega), by simp [show e.on < h.length by omega]⟩
      rw [slotAt_eq hq, slotAt_eq hq]
      exact hslot e.on q hq (hno e (by simpa using he1) he2)
    have hG' : G (fun j => (listed.setIfInBounds i true).getD j false) w' := by
      have e : (fun j => (listed.setIfInBounds i true).getD j false) = fun j => decide (j = i) || listed.getD j false := by
        funext j
        by_cases e : j = i
        · subst e; simp [hlt]
        · have : (listed.setIfInBounds i true).getD j false = listed.getD j false := by
            rw [Array.getD_eq_getD_getElem?, Array.getD_eq_getD_getElem?, Array.getElem?_setIfInBounds_ne (fun h => e h.symm)]
          rw [this]; simp [e]
      rw [e]; exact hG
    refine ⟨hI.inv.set hi hin', ?_, hG', ?_, ?_, ?_, ?_, ?_, ?_⟩
    · have hx : listed.toList[i]? = some false := by simp [hlt, hfalse]
      have := filter_set listed.toList n i hin' hx
      have e : (listed.setIfInBounds i true).toList = listed.toList.set i true := by simp
      rw [e]
      have := hI.left
      omega
    · rw [hI.frame]; cases o.dst <;> simp [Act.put]
    · rw [hI.defs]; cases o.dst <;> simp [Act.put]
    · intro t ht
      have hio : o.dst ≠ some t := ht i o hoh (by simp [hlt])
      have hold := hI.same t (fun j p hj hl => ht j p hj (by
        by_cases e : j = i
        · subst e; simp [hlt]
        · rw [Array.getD_eq_getD_getElem?, Array.getElem?_setIfInBounds_ne (fun h => e h.symm), ← Array.getD_eq_getD_getElem?]; exact hl))
      rw [← hold]
      cases hod : o.dst with
      | none => rfl
      | some d => simp only [Act.put]; rw [Array.getElem?_setIfInBounds_ne (fun e => hio (by rw [hod, e]))]
    · intro j hj hl
      obtain ⟨p, hp⟩ : ∃ p, h[j]? = some p := ⟨h[j], by simp [hj]⟩
      rw [knows_iff hp]
      rcases hgs j hl with e | ⟨hne, hl'⟩
      · subst e
        obtain rfl : o = p := by rw [hoh] at hp; exact Option.some.inj hp
        rw [hself, hdep j o hol hin' (fun e he hb => by have := hearly' j o hol e he hb; omega)]; exact hR
      · have hpl : l[j]? = some p := by rw [← hget j (by omega)]; exact hp
        rw [hslot j p hp hne, hdep j p hpl (by omega) (fun e he hb heq => by
          have := hI.inv.closed j p (by simpa using hpl) hl' e he hb
          rw [heq] at this
          have h2 : listed.getD i false = false := by simp [hlt, hfalse]
          rw [h2] at this; cases this)]
        exact hst i j _ _ _ _ (fun e => hne e.symm) hS ((knows_iff hp).1 (hI.know j hj hl'))
    · intro j p hp hl k hk
      rcases hgs j hl with e | ⟨hne, hl'⟩
      · subst e
        obtain rfl : o = p := by rw [hoh] at hp; exact Option.some.inj hp
        rw [hself] at hk; exact (hB k hk).2
      · rw [hslot j p hp hne] at hk
        exact Nat.lt_of_lt_of_le (hI.bound j p hp hl' k hk) (hgrow _ _ _ hS)
    · intro j1 j2 p1 p2 hp1 hp2 hne hl1 hl2 k hk hk2
      rcases hgs j1 hl1 with e1 | ⟨hne1, hl1'⟩
      · subst e1
        obtain rfl : o = p1 := by rw [hoh] at hp1; exact Option.some.inj hp1
        rcases hgs j2 hl2 with e2 | ⟨hne2, hl2'⟩
        · exact hne e2.symm
        · rw [hself] at hk
          rw [hslot j2 p2 hp2 hne2] at hk2
          have h1 := (hB k hk).1
          have h2 := hI.bound j2 p2 hp2 hl2' k hk2
          omega
      · rcases hgs j2 hl2 with e2 | ⟨hne2, hl2'⟩
        · subst e2
          obtain rfl : o = p2 := by rw [hoh] at hp2; exact Option.some.inj hp2
          rw [hself] at hk2
          rw [hslot j1 p1 hp1 hne1] at hk
          have h1 := (hB k hk2).1
          have h2 := hI.bound j1 p1 hp1 hl1' k hk
          omega
        · rw [hslot j1 p1 hp1 hne1] at hk
          rw [hslot j2 p2 hp2 hne2] at hk2
          exact hI.apart j1 j2 p1 p2 hp1 hp2 hne hl1' hl2' k hk hk2

/-- A region that draws its order: its first n operations in whatever order, each with its own kind of step; the others come behind them, in turn. -/
theorem wp_region_steps {P : Program} {id : Nat} {l : List Oper} (n : Nat) {a0 : Act} {w : World} {Q : Exit → Act → World → Prop} (hm : P.follows .mixedOrders = true) (hf : fits l n a0.tmps.size = true)
    (Rs : List (List Value → Value → World → Prop)) (St : Nat → World → World → Prop) (Bk : Nat → Value → Option Nat) (G : (Nat → Bool) → World → Prop) (hG : ∀ L, (∀ j, L j = false) → G L w.drew)
    (hsz : ∀ i w w', St i w w' → w.heap.size ≤ w'.heap.size) (hst : ∀ i j ds v w w', i ≠ j → St i w w' → at' Rs j ds v w → at' Rs j ds v w')
    (hsteps : Steps P (l.take n) Rs St Bk G a0.eval (l.take n) 0)
    (hend : ∀ (vs : List Value) w' L, G L w' → vs.length = n → All Rs vs w' (l.take n) 0 → Apart' Bk vs → Bounded Bk vs w' → wpList P l.toArray Q (l.drop n) (putAll (l.take n) a0 vs) w') : (Code.region id l.toArray true).wp P Q a0 w := by
  have hn : n ≤ l.length := by
    simp only [fits, Bool.and_eq_true, decide_eq_true_eq] at hf
    exact hf.1.1.2
  refine wp_region_any hm ?_
  have hne : ∀ j : Nat, (Array.replicate l.length false).getD j false = true → False := fun j hj => by
    simp only [Array.getD_eq_getD_getElem?, Array.getElem?_replicate] at hj
    split at hj <;> simp at hj
  have := wpAny_steps rfl hf hsz hst hsteps hend n (Array.replicate l.length false) a0 w.drew
    ⟨⟨by simp, fun j oj _ hl => (hne j hl).elim, fun t _ ht => getD_in (by simpa using ht) (getD_replicate_false _ _)⟩,
     by simp [List.take_replicate, Nat.min_eq_left hn], hG _ (fun j => getD_replicate_false _ _), rfl, rfl, fun t _ => rfl, fun j _ hl => (hne j hl).elim, fun j _ _ hl => (hne j hl).elim, fun i _ _ _ _ _ _ hl => (hne i hl).elim⟩
  rw [show n + (l.length - n) = l.length by omega] at this
  simpa using this

/-- .. where they make memory at most. -/
theorem wp_region_fresh {P : Program} {id : Nat} {l : List Oper} (n : Nat) {a0 : Act} {w : World} {Q : Exit → Act → World → Prop} (hm : P.follows .mixedOrders = true) (hf : fits l n a0.tmps.size = true)
    (Rs : List (List Value → Value → World → Prop)) (Bk : Nat → Value → Option Nat) (G : World → Prop) (hG : G w.drew)
    (hst : ∀ j ds v w w', Below w.heap.size w w' → at' Rs j ds v w → at' Rs j ds v w')
    (hsteps : StepsF P (l.take n) Rs Bk G a0.eval (l.take n) 0)
    (hend : ∀ (vs : List Value) w', G w' → vs.length = n → All Rs vs w' (l.take n) 0 → Apart' Bk vs → Bounded Bk vs w' → wpList P l.toArray Q (l.drop n) (putAll (l.take n) a0 vs) w') : (Code.region id l.toArray true).wp P Q a0 w :=
  wp_region_steps n hm hf Rs _ Bk (fun _ w => G w) (fun _ _ => hG) (fun _ _ _ h => h.size) (fun _ j _ _ _ _ _ hS => hst j _ _ _ _ hS) hsteps.to (fun vs w' _ => hend vs w')

end Go.Proofs.Ytnobkdkfhgjeeab
