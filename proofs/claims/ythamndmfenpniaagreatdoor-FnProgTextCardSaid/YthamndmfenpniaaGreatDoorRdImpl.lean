/- What the program's ParseProg reads: plain; it is what the reference's reads. -/
import Derived.Test.YthamndmfenpniaaGreatDoorThrImpl
namespace Go.Proofs.YthamndmfenpniaaGreatDoor
open Go.RowKit

def numsI : List ByteArray → Option (List Int)
  | [] => some []
  | x :: r => match numI x with
    | none => none
    | some n => (numsI r).map (n :: ·)
def lineI (q : Pg) (line : ByteArray) : Option Pg :=
  match thrI line with
  | some t => some { q with threads := q.threads ++ [t] }
  | none =>
    if (pieceB line spB).getD 0 noB = semsB then (numsI (pieceB line spB).tail).map fun l => { q with sems := q.sems ++ l }
    else if (pieceB line spB).getD 0 noB = groupsB then (numsI (pieceB line spB).tail).map fun l => { q with groups := q.groups ++ l }
    else if (pieceB line spB).getD 0 noB = barriersB then (numsI (pieceB line spB).tail).map fun l => { q with barriers := q.barriers ++ l }
    else if (pieceB line spB).getD 0 noB = roomsB then (numsI (pieceB line spB).tail).map fun l => { q with rooms := q.rooms ++ l }
    else none
def linesI : List ByteArray → Pg → Option Pg
  | [], q => some q
  | x :: r, q => match lineI q x with
    | none => none
    | some q' => linesI r q'
/-- The program that the program's reader sees, before it is looked at. -/
def readI (text : ByteArray) : Option Pg :=
  if 1 ≤ text.size ∧ text.extract (text.size - 1) text.size = nlB then linesI (pieceB (text.extract 0 (text.size - 1)) nlB) zeroPg else none
def progI (text : ByteArray) : Option Pg :=
  (readI text).bind fun p => if progValid p = true then if fmtProg p = text then some p else none else none
theorem numsI_dec : ∀ l : List Int, (∀ n ∈ l, -9 ≤ n ∧ n ≤ 99) → numsI (l.map decI) = some l
  | [], _ => rfl
  | n :: l, h => by
    have hn := h n List.mem_cons_self
    show (match numI (decI n) with | none => none | some n => (numsI (l.map decI)).map (n :: ·)) = _
    rw [numI_dec hn.1 hn.2, numsI_dec l (fun m hm => h m (List.mem_cons_of_mem _ hm))]
    rfl
theorem list_pieces {word : ByteArray} {l : List Int} (hw : 32 ∉ toL word) (h : ∀ n ∈ l, -9 ≤ n ∧ n ≤ 99) : pieceB (listTo word l l.length) spB = word :: l.map decI :=
  maps_inj ((pieceB_toL (c := 32) (t := []) (x := toL word) (ys := l.map fun n => toL (decI n)) rfl (by
    rw [toL_listTo _ _ _ (Nat.le_refl _), List.take_length, List.map_map]
    rfl) hw (fun y hy => by
      obtain ⟨n, hn, rfl⟩ := List.mem_map.1 hy
      exact (dec_facts (h n hn).1 (h n hn).2).2.1.1)).trans (by rw [List.map_cons, List.map_map]; rfl))
theorem thrI_list {word : ByteArray} {l : List Int} (h0 : l ≠ []) (hw : (toL word).head? ≠ some 116) (hne : word ≠ noB) : thrI (listTo word l l.length) = none := by
  have hT := toL_listTo word l l.length (Nat.le_refl _)
  obtain ⟨c, r, hc⟩ : ∃ c r, toL word = c :: r := by
    cases h : toL word with
    | nil => exact absurd (toL_inj (b := noB) h) hne
    | cons c r => exact ⟨c, r, rfl⟩
  rw [hc, List.head?_cons] at hw
  have hw' : c ≠ 116 := fun e => hw (by rw [e])
  rw [hc] at hT
  unfold thrI
  rw [if_neg (fun e => by
    rw [e] at hT
    injection hT with h1 h2
    exact hw' h1.symm), if_neg (fun e => by
    have h1 := congrArg toL e.2
    rw [toL_extract, hT] at h1
    injection h1 with h1 h2
    exact hw' h1)]
theorem heads : ((toL semsB).head? ≠ some 116 ∧ (toL groupsB).head? ≠ some 116 ∧ (toL barriersB).head? ≠ some 116 ∧ (toL roomsB).head? ≠ some 116) ∧ (semsB ≠ noB ∧ groupsB ≠ noB ∧ barriersB ≠ noB ∧ roomsB ≠ noB) := by decide
theorem linesI_append : ∀ (a b : List ByteArray) (q : Pg), linesI (a ++ b) q = (linesI a q).bind (linesI b)
  | [], _, _ => rfl
  | x :: a, b, q => by
    show (match lineI q x with | none => none | some q' => linesI (a ++ b) q') = (match lineI q x with | none => none | some q' => linesI a q').bind (linesI b)
    cases lineI q x with
    | none => rfl
    | some q' => exact linesI_append a b q'
theorem linesI_threads {p : Pg} (hv : progValid p = true) : ∀ (ts : List (List OpD)) (q : Pg), (∀ t ∈ ts, ∀ o ∈ t, opValid p o = true) → linesI (ts.map thrLine) q = some { q with threads := q.threads ++ ts }
  | [], q, _ => by simp [linesI]
  | t :: ts, q, h => by
    have hs : lineI q (thrLine t) = some { q with threads := q.threads ++ [t] } := by
      unfold lineI
      rw [thrI_own hv (h t List.mem_cons_self)]
    show (match lineI q (thrLine t) with | none => none | some q' => linesI (ts.map thrLine) q') = _
    rw [hs]
    show linesI (ts.map thrLine) _ = _
    rw [linesI_threads hv ts _ (fun x hx => h x (List.mem_cons_of_mem _ hx))]
    simp
theorem linesI_lists {p : Pg} (h : progValid p = true) : linesI (lstLine semsB p.sems ++ lstLine groupsB p.groups ++ lstLine barriersB p.barriers ++ lstLine roomsB p.rooms) zeroPg = some { p with threads := [] } := by
  obtain ⟨⟨s3, sn⟩, ⟨g3, gn⟩, ⟨b3, bn⟩, r3, rn⟩ := valid_nums h
  obtain ⟨⟨sg, sb, sr⟩, ⟨gs, gb, gr⟩, ⟨bs, bg, br⟩, ⟨rs, rg, rb⟩, -⟩ := words_apart
  obtain ⟨⟨ws, wg, wb, wr⟩, -⟩ := words_plain
  obtain ⟨⟨hs, hg, hb, hr⟩, ns, ng, nb, nr⟩ := heads
  have one : ∀ (q : Pg) (x : ByteArray), linesI [x] q = lineI q x := fun q x => by
    show (match lineI q x with | none => none | some q' => some q') = _
    cases lineI q x <;> rfl
  have f1 : ∀ q : Pg, q.sems = [] → linesI (lstLine semsB p.sems) q = some { q with sems := p.sems } := fun q hq => by
    unfold lstLine
    by_cases h0 : p.sems.length = 0
    · rw [if_pos h0, List.length_eq_zero_iff.1 h0, ← hq]; rfl
    · rw [if_neg h0, one]
      unfold lineI
      rw [thrI_list (fun e => h0 (by rw [e]; rfl)) hs ns, list_pieces ws sn]
      show (if semsB = semsB then (numsI (p.sems.map decI)).map (fun l => { q with sems := q.sems ++ l }) else _) = _
      rw [if_pos rfl, numsI_dec _ sn, hq]
      rfl
  have f2 : ∀ q : Pg, q.groups = [] → linesI (lstLine groupsB p.groups) q = some { q with groups := p.groups } := fun q hq => by
    unfold lstLine
    by_cases h0 : p.groups.length = 0
    · rw [if_pos h0, List.length_eq_zero_iff.1 h0, ← hq]; rfl
    · rw [if_neg h0, one]
      unfold lineI
      rw [thrI_list (fun e => h0 (by rw [e]; rfl)) hg ng, list_pieces wg gn]
      show (if groupsB = semsB then _ else if groupsB = groupsB then (numsI (p.groups.map decI)).map (fun l => { q with groups := q.groups ++ l }) else _) = _
      rw [if_neg gs, if_pos rfl, numsI_dec _ gn, hq]
      rfl
  have f3 : ∀ q : Pg, q.barriers = [] → linesI (lstLine barriersB p.barriers) q = some { q with barriers := p.barriers } := fun q hq => by
    unfold lstLine
    by_cases h0 : p.barriers.length = 0
    · rw [if_pos h0, List.length_eq_zero_iff.1 h0, ← hq]; rfl
    · rw [if_neg h0, one]
      unfold lineI
      rw [thrI_list (fun e => h0 (by rw [e]; rfl)) hb nb, list_pieces wb bn]
      show (if barriersB = semsB then _ else if barriersB = groupsB then _ else if barriersB = barriersB then (numsI (p.barriers.map decI)).map (fun l => { q with barriers := q.barriers ++ l }) else _) = _
      rw [if_neg bs, if_neg bg, if_pos rfl, numsI_dec _ bn, hq]
      rfl
  have f4 : ∀ q : Pg, q.rooms = [] → linesI (lstLine roomsB p.rooms) q = some { q with rooms := p.rooms } := fun q hq => by
    unfold lstLine
    by_cases h0 : p.rooms.length = 0
    · rw [if_pos h0, List.length_eq_zero_iff.1 h0, ← hq]; rfl
    · rw [if_neg h0, one]
      unfold lineI
      rw [thrI_list (fun e => h0 (by rw [e]; rfl)) hr nr, list_pieces wr rn]
      show (if roomsB = semsB then _ else if roomsB = groupsB then _ else if roomsB = barriersB then _ else if roomsB = roomsB then (numsI (p.rooms.map decI)).map (fun l => { q with rooms := q.rooms ++ l }) else none) = _
      rw [if_neg rs, if_neg rg, if_neg rb, if_pos rfl, numsI_dec _ rn, hq]
      rfl
  rw [linesI_append, linesI_append, linesI_append, f1 _ rfl]
  show ((linesI (lstLine groupsB p.groups) _).bind _).bind _ = _
  rw [f2 _ rfl]
  show (linesI (lstLine barriersB p.barriers) _).bind _ = _
  rw [f3 _ rfl]
  show linesI (lstLine roomsB p.rooms) _ = _
  rw [f4 _ rfl]
  rfl
theorem joined : ∀ (L : List ByteArray), L ≠ [] → ∃ x ys, L.map toL = x :: ys ∧ (L.map fun z => toL z ++ [10]).flatten = (x ++ (ys.map ([10] ++ ·)).flatten) ++ [10]
  | [x], _ => ⟨toL x, [], rfl, by simp⟩
  | x :: y :: L, _ => by
    obtain ⟨a, ys, h1, h2⟩ := joined (y :: L) (by simp)
    refine ⟨toL x, a :: ys, by rw [List.map_cons, h1], ?_⟩
    rw [List.map_cons, List.flatten_cons, h2]
    simp
/-- The program's reader gives a valid program's text back. -/
theorem readI_fmt {p : Pg} (h : progValid p = true) : readI (fmtProg p) = some p := by
  obtain ⟨h8, hn⟩ := lines_plain h
  have hne : linesP p ≠ [] := fun e => by
    have h1 : 1 ≤ p.threads.length := by
      unfold progValid at h
      simp only [Bool.and_eq_true, decide_eq_true_eq] at h
      exact h.1.1.2
    have := congrArg List.length e
    unfold linesP at this
    simp only [List.length_append, List.length_map, List.length_nil] at this
    omega
  obtain ⟨x, ys, h1, h2⟩ := joined _ hne
  have hT : toL (fmtProg p) = (x ++ (ys.map ([10] ++ ·)).flatten) ++ [10] := (toL_fmtProg h).trans h2
  obtain ⟨body, hbody⟩ : ∃ b, b = x ++ (ys.map ([10] ++ ·)).flatten := ⟨_, rfl⟩
  rw [← hbody] at hT
  have hsz : (fmtProg p).size = body.length + 1 := by
    show (toL (fmtProg p)).length = _
    rw [hT, List.length_append]
    rfl
  have hno : ∀ y ∈ x :: ys, (10 : UInt8) ∉ y := fun y hy => by
    rw [← h1] at hy
    obtain ⟨z, hz, rfl⟩ := List.mem_map.1 hy
    exact hn z hz
  have hb : toL ((fmtProg p).extract 0 ((fmtProg p).size - 1)) = body := by
    rw [toL_extract, hsz, hT, List.drop_zero, Nat.add_sub_cancel, Nat.sub_zero, List.take_left' rfl]
  have hp : pieceB ((fmtProg p).extract 0 ((fmtProg p).size - 1)) nlB = linesP p := maps_inj ((pieceB_toL (c := 10) (t := []) (x := x) (ys := ys) rfl (hb.trans hbody) (hno x List.mem_cons_self) (fun y hy => hno y (List.mem_cons_of_mem _ hy))).trans h1.symm)
  unfold readI
  rw [if_pos ⟨by omega, toL_inj (by
    rw [toL_extract, hsz, hT, Nat.add_sub_cancel, List.drop_left' rfl, Nat.add_sub_cancel_left]
    rfl)⟩, hp]
  unfold linesP
  rw [linesI_append, linesI_lists h]
  show linesI (p.threads.map thrLine) _ = _
  rw [linesI_threads h _ _ (fun t ht => ((valid_thr_ops h).2 t ht).2)]
  rfl
/-- Both readers read the same. -/
theorem progI_is (s : ByteArray) : progI s = parseProg s := by
  have key : ∀ p, progI s = some p ↔ progValid p = true ∧ fmtProg p = s := fun p => by
    constructor
    · intro h
      unfold progI at h
      cases hr : readI s with
      | none => rw [hr] at h; cases h
      | some q =>
        rw [hr] at h
        have h' : (if progValid q = true then if fmtProg q = s then some q else none else none) = some p := h
        split at h'
        · next hv =>
          split at h'
          · next hf =>
            obtain rfl := Option.some.inj h'
            exact ⟨hv, hf⟩
          · cases h'
        · cases h'
    · rintro ⟨hv, rfl⟩
      unfold progI
      rw [readI_fmt hv]
      show (if progValid p = true then if fmtProg p = fmtProg p then some p else none else none) = some p
      rw [if_pos hv, if_pos rfl]
  cases ha : parseProg s with
  | none =>
    cases hb : progI s with
    | none => rfl
    | some p => rw [parse_iff.2 ((key p).1 hb)] at ha; cases ha
  | some p => exact (key p).2 (parse_iff.1 ha)
end Go.Proofs.YthamndmfenpniaaGreatDoor
