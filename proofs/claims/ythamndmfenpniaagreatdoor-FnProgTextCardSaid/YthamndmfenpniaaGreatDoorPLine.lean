/- What the program's ParseProg reads of one line, thing by thing: plain. -/
import Derived.Test.YthamndmfenpniaaGreatDoorPThr
import Derived.Test.YthamndmfenpniaaGreatDoorFmtImpl3
import Derived.Test.YthamndmfenpniaaGreatDoorAppHn
import Derived.Test.YthamndmfenpniaaGreatDoorBaseE
namespace Go.Proofs.YthamndmfenpniaaGreatDoor
open Go.RowKit

def putL (p : Pg) : Nat → List Int → Pg
  | 0, l => { p with sems := l }
  | 1, l => { p with groups := l }
  | 2, l => { p with barriers := l }
  | _, l => { p with rooms := l }
/-- What the loop over the four things has read before thing k: the program, and whether a word was known. -/
def lineTo (q : Pg) (p0 : ByteArray) (nums : List ByteArray) : Nat → Option (Pg × Bool)
  | 0 => some (q, false)
  | k + 1 => (lineTo q p0 nums k).bind fun st => if wordT k = p0 then (numsI nums).map fun l => (putL st.1 k (lstT st.1 k ++ l), true) else some st
theorem lineI_to {q : Pg} {line : ByteArray} (h : thrI line = none) : lineI q line = (lineTo q ((pieceB line spB).getD 0 noB) (pieceB line spB).tail 4).bind fun st => if st.2 = true then some st.1 else none := by
  obtain ⟨⟨sg, sb, sr⟩, ⟨gs, gb, gr⟩, ⟨bs, bg, br⟩, ⟨rs, rg, rb⟩, -⟩ := words_apart
  unfold lineI
  rw [h]
  obtain ⟨p0, h0⟩ : ∃ p0, p0 = (pieceB line spB).getD 0 noB := ⟨_, rfl⟩
  obtain ⟨nums, hn⟩ : ∃ nums, nums = (pieceB line spB).tail := ⟨_, rfl⟩
  rw [← h0, ← hn]
  by_cases e0 : p0 = semsB
  · subst e0
    cases hm : numsI nums <;> simp [lineTo, wordT, gs, bs, rs, putL, lstT, hm]
  · by_cases e1 : p0 = groupsB
    · subst e1
      cases hm : numsI nums <;> simp [lineTo, wordT, sg, gs, bg, rg, putL, lstT, hm]
    · by_cases e2 : p0 = barriersB
      · subst e2
        cases hm : numsI nums <;> simp [lineTo, wordT, sb, bs, bg, gb, rb, putL, lstT, hm]
      · by_cases e3 : p0 = roomsB
        · subst e3
          cases hm : numsI nums <;> simp [lineTo, wordT, sr, rs, rg, gr, rb, br, putL, lstT, hm]
        · have f0 : ¬ semsB = p0 := fun e => e0 e.symm
          have f1 : ¬ groupsB = p0 := fun e => e1 e.symm
          have f2 : ¬ barriersB = p0 := fun e => e2 e.symm
          have f3 : ¬ roomsB = p0 := fun e => e3 e.symm
          simp [lineTo, wordT, e0, e1, e2, e3, f0, f1, f2, f3]
theorem lineTo_dead {q : Pg} {p0 : ByteArray} {nums : List ByteArray} {k : Nat} (h : lineTo q p0 nums k = none) : ∀ m, k ≤ m → lineTo q p0 nums m = none
  | 0, hm => by obtain rfl : k = 0 := by omega
                exact h
  | m + 1, hm => by
    rcases Nat.lt_or_ge m k with hc | hc
    · obtain rfl : k = m + 1 := by omega
      exact h
    · have := lineTo_dead h m hc
      show (lineTo q p0 nums m).bind _ = none
      rw [this]; rfl
theorem numsI_append : ∀ (a b : List ByteArray), numsI (a ++ b) = (numsI a).bind fun x => (numsI b).map (x ++ ·)
  | [], b => by
    show numsI b = (numsI b).map ([] ++ ·)
    cases numsI b <;> simp
  | x :: a, b => by
    show (match numI x with | none => none | some o => (numsI (a ++ b)).map (o :: ·)) = (match numI x with | none => none | some o => (numsI a).map (o :: ·)).bind fun y => (numsI b).map (y ++ ·)
    cases numI x with
    | none => rfl
    | some o =>
      show (numsI (a ++ b)).map (o :: ·) = ((numsI a).map (o :: ·)).bind fun y => (numsI b).map (y ++ ·)
      rw [numsI_append a b]
      cases numsI a with
      | none => rfl
      | some l => cases numsI b <;> simp
theorem numsI_next {parts : List ByteArray} {i : Nat} {l : List Int} (h : i < parts.length) (hl : numsI (parts.take i) = some l) : numsI (parts.take (i + 1)) = (numI (parts.getD i noB)).map fun o => l ++ [o] := by
  rw [take_next h, numsI_append, hl]
  show (numsI [parts.getD i noB]).map (l ++ ·) = _
  show (match numI (parts.getD i noB) with | none => none | some o => (numsI []).map (o :: ·)).map (l ++ ·) = _
  cases numI (parts.getD i noB) <;> rfl
theorem numsI_dead {parts : List ByteArray} {i : Nat} (hl : numsI (parts.take i) = none) : numsI parts = none := by
  have := numsI_append (parts.take i) (parts.drop i)
  rw [List.take_append_drop, hl] at this
  exact this
theorem numsI_len : ∀ {parts : List ByteArray} {l : List Int}, numsI parts = some l → l.length = parts.length
  | [], l, h => by
    have h' : some [] = some l := h
    obtain rfl := Option.some.inj h'
    rfl
  | x :: r, l, h => by
    have h' : (match numI x with | none => none | some o => (numsI r).map (o :: ·)) = some l := h
    cases ho : numI x with
    | none => rw [ho] at h'; cases h'
    | some o =>
      rw [ho] at h'
      cases hr : numsI r with
      | none => rw [hr] at h'; cases h'
      | some m =>
        rw [hr] at h'
        obtain rfl : o :: m = l := by simpa using h'
        rw [List.length_cons, List.length_cons, numsI_len hr]

/-- The lists' lengths are at most m. -/
structure Most (p : Pg) (m : Nat) : Prop where
  s : p.sems.length ≤ m
  g : p.groups.length ≤ m
  b : p.barriers.length ≤ m
  r : p.rooms.length ≤ m
theorem Most.lst {p : Pg} {m : Nat} (h : Most p m) (k : Nat) : (lstT p k).length ≤ m := by
  match k with
  | 0 => exact h.s
  | 1 => exact h.g
  | 2 => exact h.b
  | n + 3 => exact h.r
theorem Most.mono {p : Pg} {m n : Nat} (h : Most p m) (hn : m ≤ n) : Most p n := ⟨by have := h.s; omega, by have := h.g; omega, by have := h.b; omega, by have := h.r; omega⟩
theorem Most.put {p : Pg} {m n : Nat} (h : Most p m) (hn : m ≤ n) {l : List Int} (hl : l.length ≤ n) (k : Nat) : Most (putL p k l) n := by
  have h' := h.mono hn
  match k with
  | 0 => exact ⟨hl, h'.g, h'.b, h'.r⟩
  | 1 => exact ⟨h'.s, hl, h'.b, h'.r⟩
  | 2 => exact ⟨h'.s, h'.g, hl, h'.r⟩
  | n + 3 => exact ⟨h'.s, h'.g, h'.b, hl⟩
theorem pieces_count {line : ByteArray} : (pieceB line spB).tail.length ≤ line.size := by
  have := piece_count (s := line) (sep := spB) (by decide)
  rw [List.length_tail]
  omega
theorem thrI_len {line : ByteArray} {t : List OpD} (h : thrI line = some t) : t.length ≤ line.size := by
  unfold thrI at h
  split at h
  · obtain rfl : [] = t := by simpa using h
    simp
  · split at h
    · next h7 =>
      rw [opsI_len h]
      have := piece_count (s := line.extract 7 line.size) (sep := commaSpB) (by decide)
      rw [ByteArray.size_extract] at this
      omega
    · cases h
structure Grew (q q' : Pg) (m n : Nat) : Prop where
  s : q'.sems.length ≤ q.sems.length + m
  g : q'.groups.length ≤ q.groups.length + m
  b : q'.barriers.length ≤ q.barriers.length + m
  r : q'.rooms.length ≤ q.rooms.length + m
  t : q'.threads.length ≤ q.threads.length + n
  i : ∀ t ∈ q'.threads, t ∈ q.threads ∨ t.length ≤ m
theorem lineI_grew {q q' : Pg} {line : ByteArray} (h : lineI q line = some q') : Grew q q' line.size 1 := by
  have hp := pieces_count (line := line)
  unfold lineI at h
  split at h
  · next t ht =>
    obtain rfl : _ = q' := by simpa using h
    refine ⟨by simp, by simp, by simp, by simp, by simp, fun x hx => ?_⟩
    rcases List.mem_append.1 hx with hx | hx
    · exact .inl hx
    · obtain rfl := List.mem_singleton.1 hx
      exact .inr (thrI_len ht)
  · cases hn : numsI (pieceB line spB).tail with
    | none =>
      rw [hn] at h
      simp only [Option.map_none] at h
      repeat' (first | cases h | split at h)
    | some l =>
      have hl := numsI_len hn
      rw [hn] at h
      simp only [Option.map_some] at h
      repeat' split at h
      all_goals first
        | obtain rfl := Option.some.inj h
          exact ⟨by simp <;> omega, by simp <;> omega, by simp <;> omega, by simp <;> omega, by simp, fun x hx => .inl hx⟩
        | cases h
theorem linesI_grew : ∀ {lines : List ByteArray} {q q' : Pg}, linesI lines q = some q' → Grew q q' (lines.map fun x => x.size).sum lines.length
  | [], q, q', h => by
    have h' : some q = some q' := h
    obtain rfl := Option.some.inj h'
    exact ⟨by simp, by simp, by simp, by simp, by simp, fun x hx => .inl hx⟩
  | x :: r, q, q', h => by
    have h' : (match lineI q x with | none => none | some q1 => linesI r q1) = some q' := h
    cases hl : lineI q x with
    | none => rw [hl] at h'; cases h'
    | some q1 =>
      rw [hl] at h'
      have h1 := lineI_grew hl
      have h2 := linesI_grew h'
      rw [List.map_cons, List.sum_cons, List.length_cons]
      refine ⟨by have := h1.s; have := h2.s; omega, by have := h1.g; have := h2.g; omega, by have := h1.b; have := h2.b; omega, by have := h1.r; have := h2.r; omega, by have := h1.t; have := h2.t; omega, fun t ht => ?_⟩
      rcases h2.i t ht with h3 | h3
      · rcases h1.i t h3 with h4 | h4
        · exact .inl h4
        · exact .inr (by omega)
      · exact .inr (by omega)
theorem sum_take (l : List Nat) : ∀ i, (l.take i).sum ≤ l.sum := by
  induction l with
  | nil => intro i; simp
  | cons a l ih =>
    intro i
    cases i with
    | zero => simp
    | succ i => rw [List.take_succ_cons, List.sum_cons, List.sum_cons]; have := ih i; omega
/-- What was read of the first lines of a text is small. -/
theorem read_small {s : ByteArray} {q : Pg} {i : Nat} (hs : s.size ≤ 1048575) (h : linesI ((pieceB s nlB).take i) zeroPg = some q) : Most q 1048576 ∧ q.threads.length ≤ 1048576 ∧ ∀ k, (q.threads.getD k []).length ≤ 1048576 := by
  have g := linesI_grew h
  have h1 := splitB_sum nlB (Lib.countB s nlB) s
  have h2 : ∀ l : List ByteArray, (l.map fun x => x.size + nlB.size).sum = (l.map fun x => x.size).sum + l.length * nlB.size := fun l => by
    induction l with
    | nil => simp
    | cons a l ih => simp only [List.map_cons, List.sum_cons, List.length_cons, ih, Nat.add_mul]; omega
  have h3 := sum_take ((pieceB s nlB).map fun x => x.size) i
  rw [← List.map_take] at h3
  have h4 := piece_count (s := s) (sep := nlB) (by decide)
  have h5 : ((pieceB s nlB).take i).length ≤ (pieceB s nlB).length := by rw [List.length_take]; exact Nat.min_le_right _ _
  have h6 : ((pieceB s nlB).map fun x => x.size).sum ≤ s.size + 1 := by
    have h7 := h2 (pieceB s nlB)
    have h8 : nlB.size = 1 := rfl
    unfold pieceB at h7 ⊢
    rw [h7, h8] at h1
    omega
  have hz : zeroPg.sems.length = 0 ∧ zeroPg.groups.length = 0 ∧ zeroPg.barriers.length = 0 ∧ zeroPg.rooms.length = 0 ∧ zeroPg.threads.length = 0 := ⟨rfl, rfl, rfl, rfl, rfl⟩
  refine ⟨⟨by have := g.s; omega, by have := g.g; omega, by have := g.b; omega, by have := g.r; omega⟩, by have := g.t; omega, fun k => ?_⟩
  by_cases hk : k < q.threads.length
  · rw [List.getD_eq_getElem?_getD, List.getElem?_eq_getElem hk]
    rcases g.i _ (List.getElem_mem hk) with h | h
    · cases h
    · show (q.threads[k]).length ≤ _; omega
  · rw [List.getD_eq_getElem?_getD, List.getElem?_eq_none (by omega)]; exact Nat.zero_le _
theorem linesI_next {lines : List ByteArray} {i : Nat} {q : Pg} (h : i < lines.length) (hl : linesI (lines.take i) zeroPg = some q) : linesI (lines.take (i + 1)) zeroPg = lineI q (lines.getD i noB) := by
  rw [take_next h, linesI_append, hl]
  show (match lineI q (lines.getD i noB) with | none => none | some q' => linesI [] q') = _
  cases lineI q (lines.getD i noB) <;> rfl
theorem linesI_dead {lines : List ByteArray} {i : Nat} (hl : linesI (lines.take i) zeroPg = none) : linesI lines zeroPg = none := by
  have := linesI_append (lines.take i) (lines.drop i) zeroPg
  rw [List.take_append_drop, hl] at this
  exact this
theorem suffix_nl (s : ByteArray) : Lib.hasSuffix s.data.toList nlB.data.toList = decide (1 ≤ s.size ∧ s.extract (s.size - 1) s.size = nlB) := by
  rw [← Lib.hasSuffix_raw]
  have e : nlB.size = 1 := rfl
  rw [e]
  by_cases he : s.extract (s.size - 1) s.size = nlB
  · rw [he]; simp
  · have h2 : ((s.extract (s.size - 1) s.size).toList == nlB.toList) = false := by simpa using fun h => he (toList_inj h)
    rw [h2]; simp [he]
theorem trim_nl (s : ByteArray) : (⟨(Lib.trimSuffix s.data.toList nlB.data.toList).toArray⟩ : ByteArray) = if 1 ≤ s.size ∧ s.extract (s.size - 1) s.size = nlB then s.extract 0 (s.size - 1) else s := by
  by_cases hc : 1 ≤ s.size ∧ s.extract (s.size - 1) s.size = nlB
  · rw [if_pos hc]
    exact Lib.trimSuffix_hit s nlB hc.1 (by show ((s.extract (s.size - 1) s.size).toList == nlB.toList) = true; rw [hc.2]; simp)
  · rw [if_neg hc]
    exact Lib.trimSuffix_miss s nlB (by rw [Lib.hasSuffix_raw, suffix_nl]; exact decide_eq_false hc)
end Go.Proofs.YthamndmfenpniaaGreatDoor
