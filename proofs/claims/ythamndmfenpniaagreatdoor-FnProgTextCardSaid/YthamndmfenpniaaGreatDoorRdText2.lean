/- A valid program's text is read as that program: the threads, the whole. Plain. -/
import Derived.Test.YthamndmfenpniaaGreatDoorRdText
namespace Go.Proofs.YthamndmfenpniaaGreatDoor
open Go.RowKit

theorem valid_thr_ops {p : Pg} (h : progValid p = true) : p.threads.length ≤ 4 ∧ ∀ t ∈ p.threads, t.length ≤ 8 ∧ ∀ o ∈ t, opValid p o = true := by
  unfold progValid at h
  simp only [Bool.and_eq_true, decide_eq_true_eq, List.all_eq_true] at h
  exact ⟨h.1.2, h.2⟩
theorem piece_read {p : Pg} (hv : progValid p = true) {o : OpD} {r : List OpD} (ho : ∀ x ∈ o :: r, opValid p x = true) {parts : List ByteArray} (hp : parts.map toL = toL (fmtOp o) :: r.map fun x => 32 :: toL (fmtOp x)) : ∀ i, i ≤ r.length → pieceOp (parts.getD i noB) i = some ((o :: r).getD i noOp)
  | 0, _ => by
    have h0 : parts.getD 0 noB = fmtOp o := toL_inj (getD_toL hp 0)
    show (if 0 = 0 then parseOp (parts.getD 0 noB) else _) = some o
    rw [if_pos rfl, h0]
    exact (op_text hv (ho o List.mem_cons_self)).1
  | i + 1, hi => by
    have hl : i < r.length := hi
    have hx : r.getD i noOp ∈ r := by rw [List.getD_eq_getElem?_getD, List.getElem?_eq_getElem hl]; exact List.getElem_mem _
    have h0 : toL (parts.getD (i + 1) noB) = 32 :: toL (fmtOp (r.getD i noOp)) := by
      rw [getD_toL hp, List.getD_cons_succ, List.getD_eq_getElem?_getD, List.getElem?_map, List.getElem?_eq_getElem hl, List.getD_eq_getElem?_getD, List.getElem?_eq_getElem hl]
      rfl
    obtain ⟨x, hxx⟩ : ∃ x, x = parts.getD (i + 1) noB := ⟨_, rfl⟩
    rw [← hxx] at h0 ⊢
    have hsz : x.size = (toL x).length := rfl
    have hpos : 0 < x.size := by rw [hsz, h0]; simp
    show (if i + 1 = 0 then parseOp x else if x = noB then none else if byteAt x 0 = 32 then parseOp (x.extract 1 x.size) else none) = some (r.getD i noOp)
    have hb : byteAt x 0 = 32 := by
      have h1 := (byteAt_is (c := 32) hpos).2 (by simp only [h0]; rfl)
      exact h1
    have he : x.extract 1 x.size = fmtOp (r.getD i noOp) := toL_inj (by
      rw [toL_extract, hsz, h0, List.drop_one, List.tail_cons, List.length_cons, Nat.add_sub_cancel, List.take_length])
    rw [if_neg (by omega), if_neg (fun e => by rw [e] at hpos; exact absurd hpos (by decide)), if_pos hb, he]
    exact (op_text hv (ho _ (List.mem_cons_of_mem _ hx))).1
theorem ops_read {p : Pg} (hv : progValid p = true) {o : OpD} {r : List OpD} (ho : ∀ x ∈ o :: r, opValid p x = true) {parts : List ByteArray} (hp : parts.map toL = toL (fmtOp o) :: r.map fun x => 32 :: toL (fmtOp x)) : ∀ j, j ≤ (o :: r).length → opsFrom parts j = some ((o :: r).take j)
  | 0, _ => rfl
  | j + 1, hj => by
    show (match opsFrom parts j with | none => none | some l => match pieceOp (parts.getD j noB) j with | none => none | some x => some (l ++ [x])) = _
    rw [ops_read hv ho hp j (by omega), piece_read hv ho hp j (by rw [List.length_cons] at hj; omega), takeS (o :: r) noOp (by omega)]
theorem thread_read {p : Pg} (hv : progValid p = true) {t : List OpD} (h8 : t.length ≤ 8) (ho : ∀ o ∈ t, opValid p o = true) : threadLine (thrLine t) = some t := by
  cases t with
  | nil => rfl
  | cons o r =>
    have hT : toL (thrLine (o :: r)) = toL threadB ++ 32 :: (toL (fmtOp o) ++ (r.map fun x => 44 :: 32 :: toL (fmtOp x)).flatten) := by rw [toL_thrLine]; simp [opsL]
    obtain ⟨line, hline⟩ : ∃ x, x = thrLine (o :: r) := ⟨_, rfl⟩
    rw [← hline] at hT ⊢
    obtain ⟨rest, hrest⟩ : ∃ x, x = toL (fmtOp o) ++ (r.map fun x => 44 :: 32 :: toL (fmtOp x)).flatten := ⟨_, rfl⟩
    rw [← hrest] at hT
    have h6 : toL threadB = [116, 104, 114, 101, 97, 100] := rfl
    rw [h6] at hT
    have hsz : line.size = rest.length + 7 := by
      show (toL line).length = _
      rw [hT]
      simp only [List.length_append, List.length_cons, List.length_nil]
      omega
    have h7 : toL (line.extract 7 line.size) = rest := by
      rw [toL_extract, hT, hsz]
      show rest.take (rest.length + 7 - 7) = rest
      rw [Nat.add_sub_cancel, List.take_length]
    have hp : (cutB (line.extract 7 line.size) 44).map toL = toL (fmtOp o) :: r.map fun x => 32 :: toL (fmtOp x) := by
      have h1 := cutB_splitL (line.extract 7 line.size) 44
      rw [h7, hrest, show (r.map fun x => 44 :: 32 :: toL (fmtOp x)) = (r.map fun x => 32 :: toL (fmtOp x)).map (44 :: ·) by rw [List.map_map]; rfl, splitL_tail _ _ (op_text hv (ho o List.mem_cons_self)).2.1.2 (fun y hy => by
        obtain ⟨x, hx, rfl⟩ := List.mem_map.1 hy
        have := (op_text hv (ho x (List.mem_cons_of_mem _ hx))).2.1.2
        simpa using this)] at h1
      exact h1
    unfold threadLine
    rw [if_neg (fun e => by
      have := congrArg (fun x => (toL x).length) e
      rw [h6, hT] at this
      simp only [List.length_append, List.length_cons, List.length_nil] at this
      omega), if_neg (by omega), if_pos (toL_inj (by rw [toL_extract, hT]; rfl))]
    unfold threadOf
    have hl : (cutB (line.extract 7 line.size) 44).length = (o :: r).length := by
      have := congrArg List.length hp
      rw [List.length_map, List.length_cons, List.length_map] at this
      rw [this, List.length_cons]
    rw [hl, if_pos h8, ops_read hv ho hp _ (Nat.le_refl _), List.take_length]
theorem words_apart : (semsB ≠ groupsB ∧ semsB ≠ barriersB ∧ semsB ≠ roomsB) ∧ (groupsB ≠ semsB ∧ groupsB ≠ barriersB ∧ groupsB ≠ roomsB) ∧ (barriersB ≠ semsB ∧ barriersB ≠ groupsB ∧ barriersB ≠ roomsB) ∧ (roomsB ≠ semsB ∧ roomsB ≠ groupsB ∧ roomsB ≠ barriersB) ∧ (threadB ≠ semsB ∧ threadB ≠ groupsB ∧ threadB ≠ barriersB ∧ threadB ≠ roomsB) := by decide
theorem words_plain : (32 ∉ toL semsB ∧ 32 ∉ toL groupsB ∧ 32 ∉ toL barriersB ∧ 32 ∉ toL roomsB) ∧ (10 ∉ toL semsB ∧ 10 ∉ toL groupsB ∧ 10 ∉ toL barriersB ∧ 10 ∉ toL roomsB ∧ 10 ∉ toL threadB) := by decide
theorem fold_threads {p : Pg} (hv : progValid p = true) : ∀ (ts : List (List OpD)) (q : Pg), (∀ t ∈ ts, t.length ≤ 8 ∧ ∀ o ∈ t, opValid p o = true) → (ts.map thrLine).foldl stepLine q = { q with threads := q.threads ++ ts }
  | [], q, _ => by simp
  | t :: ts, q, h => by
    obtain ⟨-, -, -, -, h1, h2, h3, h4⟩ := words_apart
    have ht := h t List.mem_cons_self
    have hs : stepLine q (thrLine t) = { q with threads := q.threads ++ [t] } := by
      unfold stepLine
      rw [lineB_thread t h1, lineB_thread t h2, lineB_thread t h3, lineB_thread t h4, thread_read hv ht.1 ht.2]
    rw [List.map_cons, List.foldl_cons, hs, fold_threads hv ts _ (fun x hx => h x (List.mem_cons_of_mem _ hx))]
    simp
theorem linesTo_fold (L : List ByteArray) (y : ByteArray) : ∀ k, k ≤ L.length → linesTo (L ++ [y]) k = (L.take k).foldl stepLine zeroPg
  | 0, _ => rfl
  | k + 1, h => by
    show stepLine (linesTo (L ++ [y]) k) ((L ++ [y]).getD k noB) = _
    rw [linesTo_fold L y k (by omega), takeS L noB (by omega), List.foldl_append]
    have e : (L ++ [y]).getD k noB = L.getD k noB := by
      rw [List.getD_eq_getElem?_getD, List.getD_eq_getElem?_getD, List.getElem?_append_left (by omega)]
    rw [e]
    rfl
theorem valid_nums {p : Pg} (h : progValid p = true) : (p.sems.length ≤ 3 ∧ ∀ n ∈ p.sems, -9 ≤ n ∧ n ≤ 99) ∧ (p.groups.length ≤ 3 ∧ ∀ n ∈ p.groups, -9 ≤ n ∧ n ≤ 99) ∧ (p.barriers.length ≤ 3 ∧ ∀ n ∈ p.barriers, -9 ≤ n ∧ n ≤ 99) ∧ (p.rooms.length ≤ 3 ∧ ∀ n ∈ p.rooms, -9 ≤ n ∧ n ≤ 99) := by
  obtain ⟨h1, h2, h3, h4⟩ := valid_lists h
  exact ⟨list_nums h1 (by decide) (by decide), list_nums h2 (by decide) (by decide), list_nums h3 (by decide) (by decide), list_nums h4 (by decide) (by decide)⟩
theorem fold_lists {p : Pg} (h : progValid p = true) : (lstLine semsB p.sems ++ lstLine groupsB p.groups ++ lstLine barriersB p.barriers ++ lstLine roomsB p.rooms).foldl stepLine zeroPg = { p with threads := [] } := by
  obtain ⟨⟨s3, sn⟩, ⟨g3, gn⟩, ⟨b3, bn⟩, r3, rn⟩ := valid_nums h
  obtain ⟨⟨sg, sb, sr⟩, ⟨gs, gb, gr⟩, ⟨bs, bg, br⟩, ⟨rs, rg, rb⟩, -⟩ := words_apart
  obtain ⟨⟨ws, wg, wb, wr⟩, -⟩ := words_plain
  have f1 : ∀ q : Pg, q.sems = [] → (lstLine semsB p.sems).foldl stepLine q = { q with sems := p.sems } := fun q hq => by
    unfold lstLine
    by_cases h0 : p.sems.length = 0
    · rw [if_pos h0, List.length_eq_zero_iff.1 h0, ← hq]; rfl
    · rw [if_neg h0]
      show stepLine q _ = _
      unfold stepLine
      rw [lineB_own ws h0 s3 sn]
  have f2 : ∀ q : Pg, q.groups = [] → (lstLine groupsB p.groups).foldl stepLine q = { q with groups := p.groups } := fun q hq => by
    unfold lstLine
    by_cases h0 : p.groups.length = 0
    · rw [if_pos h0, List.length_eq_zero_iff.1 h0, ← hq]; rfl
    · rw [if_neg h0]
      show stepLine q _ = _
      unfold stepLine
      rw [lineB_other wg gs gn, lineB_own wg h0 g3 gn]
  have f3 : ∀ q : Pg, q.barriers = [] → (lstLine barriersB p.barriers).foldl stepLine q = { q with barriers := p.barriers } := fun q hq => by
    unfold lstLine
    by_cases h0 : p.barriers.length = 0
    · rw [if_pos h0, List.length_eq_zero_iff.1 h0, ← hq]; rfl
    · rw [if_neg h0]
      show stepLine q _ = _
      unfold stepLine
      rw [lineB_other wb bs bn, lineB_other wb bg bn, lineB_own wb h0 b3 bn]
  have f4 : ∀ q : Pg, q.rooms = [] → (lstLine roomsB p.rooms).foldl stepLine q = { q with rooms := p.rooms } := fun q hq => by
    unfold lstLine
    by_cases h0 : p.rooms.length = 0
    · rw [if_pos h0, List.length_eq_zero_iff.1 h0, ← hq]; rfl
    · rw [if_neg h0]
      show stepLine q _ = _
      unfold stepLine
      rw [lineB_other wr rs rn, lineB_other wr rg rn, lineB_other wr rb rn, lineB_own wr h0 r3 rn]
  rw [List.foldl_append, List.foldl_append, List.foldl_append, f1 _ rfl, f2 _ rfl, f3 _ rfl, f4 _ rfl]
  rfl
theorem lst_plain {word : ByteArray} {l : List Int} (hw : 10 ∉ toL word) (h : ∀ n ∈ l, -9 ≤ n ∧ n ≤ 99) : ∀ x ∈ lstLine word l, 10 ∉ toL x := by
  intro x hx
  unfold lstLine at hx
  split at hx
  · cases hx
  · obtain rfl := List.mem_singleton.1 hx
    rw [toL_listTo _ _ _ (Nat.le_refl _), List.take_length, List.mem_append, List.mem_flatten]
    rintro (h0 | ⟨y, hy, h0⟩)
    · exact hw h0
    · obtain ⟨n, hn, rfl⟩ := List.mem_map.1 hy
      have := (dec_facts (h n hn).1 (h n hn).2).2.1.2.1
      simp [this] at h0
theorem lst_one (word : ByteArray) (l : List Int) : (lstLine word l).length ≤ 1 := by
  unfold lstLine
  split <;> simp
theorem lines_plain {p : Pg} (h : progValid p = true) : (linesP p).length ≤ 8 ∧ ∀ x ∈ linesP p, 10 ∉ toL x := by
  obtain ⟨⟨-, sn⟩, ⟨-, gn⟩, ⟨-, bn⟩, -, rn⟩ := valid_nums h
  obtain ⟨-, ws, wg, wb, wr, wt⟩ := words_plain
  obtain ⟨h4, ht⟩ := valid_thr_ops h
  unfold linesP
  refine ⟨?_, fun x hx => ?_⟩
  · have l1 := lst_one semsB p.sems
    have l2 := lst_one groupsB p.groups
    have l3 := lst_one barriersB p.barriers
    have l4 := lst_one roomsB p.rooms
    simp only [List.length_append, List.length_map]
    omega
  · simp only [List.mem_append] at hx
    rcases hx with (((hx | hx) | hx) | hx) | hx
    · exact lst_plain ws sn x hx
    · exact lst_plain wg gn x hx
    · exact lst_plain wb bn x hx
    · exact lst_plain wr rn x hx
    · obtain ⟨t, hm, rfl⟩ := List.mem_map.1 hx
      have ho := (ht t hm).2
      rw [toL_thrLine]
      cases t with
      | nil => simpa [opsL] using wt
      | cons o r =>
        have h1 := (op_text h (ho o List.mem_cons_self)).2.1.1
        have h2 : ∀ y ∈ r, 10 ∉ toL (fmtOp y) := fun y hy => (op_text h (ho y (List.mem_cons_of_mem _ hy))).2.1.1
        simp only [opsL, List.mem_append, List.mem_cons, List.mem_flatten, List.mem_map]
        rintro (h0 | (h0 | h0) | ⟨z, ⟨y, hy, rfl⟩, h0⟩)
        · exact wt h0
        · cases h0
        · exact h1 h0
        · have := h2 y hy
          simp [this] at h0
/-- The reference's reader gives a valid program's text back. -/
theorem read_fmt {p : Pg} (h : progValid p = true) : readLines (cutB (fmtProg p) 10) = p := by
  obtain ⟨h8, hn⟩ := lines_plain h
  have hc : cutB (fmtProg p) 10 = linesP p ++ [noB] := maps_inj (by
    have h1 := cutB_splitL (fmtProg p) 10
    rw [toL_fmtProg h, show ((linesP p).map fun x => toL x ++ [10]) = ((linesP p).map toL).map (· ++ [10]) by rw [List.map_map]; rfl, ← List.append_nil (List.flatten _), splitL_lines _ _ (fun x hx => by
      obtain ⟨y, hy, rfl⟩ := List.mem_map.1 hx
      exact hn y hy)] at h1
    rw [List.map_append]
    exact h1)
  unfold readLines
  have e : Nat.min ((linesP p ++ [noB]).length - 1) 9 = (linesP p).length := by
    rw [List.length_append, List.length_singleton, Nat.add_sub_cancel]
    show min _ _ = _
    omega
  rw [hc, e, linesTo_fold _ _ _ (Nat.le_refl _), List.take_length]
  unfold linesP
  rw [List.foldl_append, fold_lists h, fold_threads h _ _ (valid_thr_ops h).2]
  rfl
theorem parse_fmt {p : Pg} (h : progValid p = true) : parseProg (fmtProg p) = some p := by
  unfold parseProg
  rw [read_fmt h, if_pos h, if_pos rfl]
/-- A text is read as a program exactly where it is that valid program's text. -/
theorem parse_iff {s : ByteArray} {p : Pg} : parseProg s = some p ↔ progValid p = true ∧ fmtProg p = s := by
  constructor
  · intro h
    unfold parseProg at h
    split at h
    · next hv =>
      split at h
      · next hf =>
        obtain rfl := Option.some.inj h
        exact ⟨hv, hf⟩
      · cases h
    · cases h
  · rintro ⟨hv, rfl⟩
    exact parse_fmt hv
end Go.Proofs.YthamndmfenpniaaGreatDoor
