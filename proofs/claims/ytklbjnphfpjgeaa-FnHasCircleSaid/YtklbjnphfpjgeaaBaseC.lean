/- Texts of programs: plain words; a line of numbers, the reference's text. l6Make: the reference's text. l13Cut: a text is split at every byte of a kind. l13Num: a number is read, the reference's text. ParseOp: the reference's text. l6Line: the reference's text. A program's whole copy while it is made: the block that holds it, its rows. l6Thread: the reference's text. FormatProg: the reference's text. Plain facts for ParseProg of the reference. ParseProg: the reference's text. A sample text is drawn: r.of and l6Samples. -/
import Derived.Test.YtklbjnphfpjgeaaBaseB
import Derived.Test.YtklbjnphfpjgeaaBaseA
namespace Go.Proofs.Ytklbjnphfpjgeaa
open Go.RowKit

def nlB : ByteArray := ⟨#[10]⟩
def commaB : ByteArray := ⟨#[44]⟩
def threadB : ByteArray := ⟨#[116, 104, 114, 101, 97, 100]⟩
def semsB : ByteArray := ⟨#[115, 101, 109, 115]⟩
def groupsB : ByteArray := ⟨#[103, 114, 111, 117, 112, 115]⟩
def barriersB : ByteArray := ⟨#[98, 97, 114, 114, 105, 101, 114, 115]⟩
def roomsB : ByteArray := ⟨#[114, 111, 111, 109, 115]⟩
def listTo (word : ByteArray) (l : List Int) : Nat → ByteArray
  | 0 => word
  | k + 1 => listTo word l k ++ spB ++ decI (l.getD k 0)
def listText (word : ByteArray) (l : List Int) : ByteArray := if l.length = 0 then ⟨#[]⟩ else listTo word l l.length ++ nlB
def opsTo (s : ByteArray) (l : List OpD) : Nat → ByteArray
  | 0 => s
  | k + 1 => (if 0 < k then opsTo s l k ++ commaB else opsTo s l k) ++ spB ++ fmtOp (l.getD k noOp)
def thrTo (s : ByteArray) (ts : List (List OpD)) : Nat → ByteArray
  | 0 => s
  | i + 1 => opsTo (thrTo s ts i ++ threadB) (ts.getD i []) (ts.getD i []).length ++ nlB
def listsText (p : Pg) : ByteArray := listText semsB p.sems ++ listText groupsB p.groups ++ listText barriersB p.barriers ++ listText roomsB p.rooms
/-- The text of a program. -/
def fmtProg (p : Pg) : ByteArray := if progValid p = true then thrTo (listsText p) p.threads p.threads.length else ⟨#[]⟩

theorem within_facts {l : List Int} {lo hi : Int} (h : within l lo hi = true) : l.length ≤ 3 ∧ ∀ j, j < l.length → lo ≤ l.getD j 0 ∧ l.getD j 0 ≤ hi := by
  unfold within at h
  simp only [Bool.and_eq_true, decide_eq_true_eq, List.all_eq_true] at h
  refine ⟨h.1, fun j hj => ?_⟩
  have e : l.getD j 0 = l[j] := by simp [List.getD, hj]
  rw [e]
  exact h.2 _ (List.getElem_mem hj)
theorem valid_lists {p : Pg} (h : progValid p = true) : within p.sems 1 9 = true ∧ within p.groups 0 9 = true ∧ within p.barriers 1 6 = true ∧ within p.rooms 0 4 = true := by
  unfold progValid at h
  simp only [Bool.and_eq_true] at h
  exact ⟨h.1.1.1.1.1.1, h.1.1.1.1.1.2, h.1.1.1.1.2, h.1.1.1.2⟩
theorem valid_bounds {p : Pg} (hv : progValid p = true) {o : OpD} (h : opValid p o = true) : (0 ≤ o.on ∧ o.on ≤ 3) ∧ -9 ≤ o.arg ∧ o.arg ≤ 99 := by
  obtain ⟨hk, hon, harg⟩ := opValid_facts h
  obtain ⟨h1, h2, h3, h4⟩ := valid_lists hv
  have l1 := (within_facts h1).1
  have l2 := (within_facts h2).1
  have l3 := (within_facts h3).1
  have l4 := (within_facts h4).1
  have hsh : shared p o.kind ≤ 3 := by
    unfold shared
    repeat' split
    all_goals omega
  refine ⟨⟨hon.1, by omega⟩, ?_⟩
  unfold argOk at harg
  split at harg
  · simp only [Bool.and_eq_true, decide_eq_true_eq] at harg
    have hs : p.sems.getD o.on.toNat 0 ≤ 9 := by
      by_cases hi : o.on.toNat < p.sems.length
      · exact ((within_facts h1).2 _ hi).2
      · rw [List.getD_eq_getElem?_getD, List.getElem?_eq_none (by omega)]; simp
    omega
  · split at harg
    · simp only [Bool.and_eq_true, decide_eq_true_eq] at harg
      omega
    · split at harg
      · unfold isVal at harg
        simp only [Bool.and_eq_true, decide_eq_true_eq] at harg
        omega
      · simp only [decide_eq_true_eq] at harg
        omega

def InI64 (n : Int) : Prop := -9223372036854775808 ≤ n ∧ n ≤ 9223372036854775807
theorem listTo_size {word : ByteArray} {l : List Int} (hb : ∀ j, j < l.length → InI64 (l.getD j 0)) : ∀ k, k ≤ l.length → (listTo word l k).size ≤ word.size + 21 * k
  | 0, _ => Nat.le_refl _
  | k + 1, hk => by
    have h := listTo_size (word := word) hb k (by omega)
    have h2 := decI_size _ (hb k (by omega)).1 (hb k (by omega)).2
    have hs : spB.size = 1 := rfl
    show (listTo word l k ++ spB ++ decI (l.getD k 0)).size ≤ _
    rw [ByteArray.size_append, ByteArray.size_append]
    omega
theorem listText_size {word : ByteArray} {l : List Int} (hb : ∀ j, j < l.length → InI64 (l.getD j 0)) (hw : word.size ≤ 8) (hl : l.length ≤ 3) : (listText word l).size ≤ 72 := by
  unfold listText
  split
  · show 0 ≤ 72; omega
  · have := listTo_size (word := word) hb l.length (Nat.le_refl _)
    have hs : nlB.size = 1 := rfl
    rw [ByteArray.size_append]
    omega
theorem opsTo_size {s : ByteArray} {l : List OpD} (hb : ∀ j, j < l.length → InI64 (l.getD j noOp).on ∧ InI64 (l.getD j noOp).arg) : ∀ k, k ≤ l.length → (opsTo s l k).size ≤ s.size + 51 * k
  | 0, _ => Nat.le_refl _
  | k + 1, hk => by
    have h := opsTo_size (s := s) hb k (by omega)
    have h2 := fmtOp_size _ (hb k (by omega)).1 (hb k (by omega)).2
    have hs : spB.size = 1 := rfl
    have hc : commaB.size = 1 := rfl
    show ((if 0 < k then opsTo s l k ++ commaB else opsTo s l k) ++ spB ++ fmtOp (l.getD k noOp)).size ≤ _
    rw [ByteArray.size_append, ByteArray.size_append]
    split
    · rw [ByteArray.size_append]; omega
    · omega
theorem thrTo_size {s : ByteArray} {ts : List (List OpD)} (h8 : ∀ i, i < ts.length → (ts.getD i []).length ≤ 8) (hb : ∀ i j, i < ts.length → j < (ts.getD i []).length → InI64 ((ts.getD i []).getD j noOp).on ∧ InI64 ((ts.getD i []).getD j noOp).arg) :
    ∀ i, i ≤ ts.length → (thrTo s ts i).size ≤ s.size + 415 * i
  | 0, _ => Nat.le_refl _
  | i + 1, hi => by
    have h := thrTo_size (s := s) h8 hb i (by omega)
    have h2 := opsTo_size (s := thrTo s ts i ++ threadB) (fun j hj => hb i j (by omega) hj) (ts.getD i []).length (Nat.le_refl _)
    have h3 := h8 i (by omega)
    have hs : threadB.size = 6 := rfl
    have hc : nlB.size = 1 := rfl
    show (opsTo (thrTo s ts i ++ threadB) (ts.getD i []) (ts.getD i []).length ++ nlB).size ≤ _
    rw [ByteArray.size_append]
    rw [ByteArray.size_append] at h2
    omega

end Go.Proofs.Ytklbjnphfpjgeaa
namespace Go.Proofs.Ytklbjnphfpjgeaa
open Go.RowKit

def makeOp (k : Int) (nums : List Int) : Option OpD :=
  if argsN k = 0 ∧ nums.length = 1 then some ⟨k, 0, nums.getD 0 0⟩
  else if argsN k = 1 ∧ nums.length = 1 then some ⟨k, nums.getD 0 0, 0⟩
  else if argsN k = 2 ∧ nums.length = 2 then some ⟨k, nums.getD 0 0, nums.getD 1 0⟩
  else none
abbrev zeroOp : OpD := ⟨0, 0, 0⟩
theorem argsN_cases (k : Int) : argsN k = 0 ∨ argsN k = 1 ∨ argsN k = 2 := by
  unfold argsN
  repeat' split
  all_goals simp

end Go.Proofs.Ytklbjnphfpjgeaa
namespace Go.Proofs.Ytklbjnphfpjgeaa
open Go.RowKit

theorem info_str : (Try.prog.info? 9).map (fun i => (i.zero, i.size, i.bytes)) = some (some (.string ⟨#[]⟩), 1, 16) := by kernel_rfl
/-- The byte at a place. -/
def byteAt (s : ByteArray) (i : Nat) : Int := if h : i < s.size then (s[i].toNat : Int) else 0
def cutTo (s : ByteArray) (c : Int) : Nat → List ByteArray × Nat
  | 0 => ([], 0)
  | i + 1 => if i = s.size ∨ byteAt s i = c then ((cutTo s c i).1 ++ [s.extract (cutTo s c i).2 i], i + 1) else cutTo s c i
def cutB (s : ByteArray) (c : Int) : List ByteArray := (cutTo s c (s.size + 1)).1
abbrev strs (l : List ByteArray) : List Value := l.map Value.string
theorem cutTo_le (s : ByteArray) (c : Int) : ∀ i, (cutTo s c i).2 ≤ i ∧ (cutTo s c i).1.length ≤ i
  | 0 => ⟨Nat.le_refl _, Nat.le_refl _⟩
  | i + 1 => by
    have h := cutTo_le s c i
    show (if i = s.size ∨ byteAt s i = c then ((cutTo s c i).1 ++ [s.extract (cutTo s c i).2 i], i + 1) else cutTo s c i).2 ≤ i + 1 ∧ (if i = s.size ∨ byteAt s i = c then ((cutTo s c i).1 ++ [s.extract (cutTo s c i).2 i], i + 1) else cutTo s c i).1.length ≤ i + 1
    split
    · exact ⟨Nat.le_refl _, by rw [List.length_append]; show _ + 1 ≤ _; omega⟩
    · omega
theorem cutTo_size (s : ByteArray) (c : Int) : ∀ i, ∀ x ∈ (cutTo s c i).1, x.size ≤ s.size
  | 0, x, hx => by cases hx
  | i + 1, x, hx => by
    have h := cutTo_size s c i
    have hx' : x ∈ (if i = s.size ∨ byteAt s i = c then ((cutTo s c i).1 ++ [s.extract (cutTo s c i).2 i], i + 1) else cutTo s c i).1 := hx
    split at hx'
    · rcases List.mem_append.1 hx' with h' | h'
      · exact h x h'
      · obtain rfl := List.mem_singleton.1 h'
        rw [ByteArray.size_extract]; omega
    · exact h x hx'
theorem cutB_pos (s : ByteArray) (c : Int) : 1 ≤ (cutB s c).length := by
  unfold cutB
  show 1 ≤ (if s.size = s.size ∨ byteAt s s.size = c then ((cutTo s c s.size).1 ++ [s.extract (cutTo s c s.size).2 s.size], s.size + 1) else cutTo s c s.size).1.length
  rw [if_pos (.inl rfl), List.length_append]
  show 1 ≤ _ + 1
  omega

end Go.Proofs.Ytklbjnphfpjgeaa
namespace Go.Proofs.Ytklbjnphfpjgeaa
open Go.RowKit

/-- The number of the first k digits, if all are digits. -/
def digsTo (t : ByteArray) : Nat → Option Int
  | 0 => some 0
  | k + 1 => match digsTo t k with
    | none => none
    | some n => if 48 ≤ byteAt t k ∧ byteAt t k ≤ 57 then some (n * 10 + (byteAt t k - 48)) else none
/-- The number of a text behind its sign. -/
def numBody (t : ByteArray) (neg : Bool) : Option Int :=
  if t.size = 0 ∨ 17 < t.size ∨ (byteAt t 0 = 48 ∧ (1 < t.size ∨ neg = true)) then none else (digsTo t t.size).map fun n => if neg = true then -n else n
/-- The number of a text. -/
def numB (s : ByteArray) : Option Int := if 0 < s.size ∧ byteAt s 0 = 45 then numBody (s.extract 1 s.size) true else numBody s false

theorem digsTo_none {t : ByteArray} {k : Nat} : ∀ {m : Nat}, k ≤ m → digsTo t k = none → digsTo t m = none
  | 0, h, hn => by obtain rfl : k = 0 := by omega
                   exact hn
  | m + 1, h, hn => by
    rcases Nat.lt_or_ge m k with hc | hc
    · obtain rfl : k = m + 1 := by omega
      exact hn
    · have := digsTo_none (m := m) hc hn
      show (match digsTo t m with | none => none | some n => if 48 ≤ byteAt t m ∧ byteAt t m ≤ 57 then some (n * 10 + (byteAt t m - 48)) else none) = none
      rw [this]
theorem digsTo_bound {t : ByteArray} : ∀ {k : Nat} {n : Int}, digsTo t k = some n → 0 ≤ n ∧ n < 10 ^ k
  | 0, n, h => by
    have : n = 0 := by simpa [digsTo] using h.symm
    omega
  | k + 1, n, h => by
    have h' : (match digsTo t k with | none => none | some n => if 48 ≤ byteAt t k ∧ byteAt t k ≤ 57 then some (n * 10 + (byteAt t k - 48)) else none) = some n := h
    cases hd : digsTo t k with
    | none => rw [hd] at h'; cases h'
    | some m =>
      rw [hd] at h'
      have hb := digsTo_bound hd
      simp only at h'
      split at h'
      · have e : m * 10 + (byteAt t k - 48) = n := by simpa using h'
        rw [Int.pow_succ]
        omega
      · cases h'

end Go.Proofs.Ytklbjnphfpjgeaa
namespace Go.Proofs.Ytklbjnphfpjgeaa
open Go.RowKit

def noB : ByteArray := ⟨#[]⟩
def numsTo (parts : List ByteArray) : Nat → Option (List Int)
  | 0 => some []
  | j + 1 => match numsTo parts j with
    | none => none
    | some l => match numB (parts.getD (j + 1) noB) with
      | none => none
      | some x => some (l ++ [x])
def tryKind (text : ByteArray) (parts : List ByteArray) (nums : List Int) (k : Int) : Option OpD :=
  if wordB k = parts.getD 0 noB then (makeOp k nums).bind fun o => if fmtOp o = text then some o else none else none
def firstKind (text : ByteArray) (parts : List ByteArray) (nums : List Int) : Nat → Option OpD
  | 0 => none
  | n + 1 => match firstKind text parts nums n with
    | some o => some o
    | none => tryKind text parts nums ((n : Int) + 1)
def parseOpParts (text : ByteArray) (parts : List ByteArray) : Option OpD :=
  (numsTo parts (Nat.min (parts.length - 1) 3)).bind fun nums => if nums.length = parts.length - 1 then firstKind text parts nums 10 else none
def parseOp (text : ByteArray) : Option OpD := parseOpParts text (cutB text 32)

theorem toList_inj {a b : ByteArray} (h : a.toList = b.toList) : a = b := by
  rw [ByteArray.toList_eq, ByteArray.toList_eq] at h
  obtain ⟨x⟩ := a
  obtain ⟨y⟩ := b
  congr 1
  exact Array.toList_inj.1 h
theorem run_str_ne {P : Program} (W : World) {a b : ByteArray} (h : a ≠ b) : (Op.stringOp .neq a b).run P W = .ok (.bool true) W := by
  have : (a.toList == b.toList) = false := by simpa using fun h' => h (toList_inj h')
  simp [Op.stringOp, this]
theorem run_str_ne_same {P : Program} (W : World) (a : ByteArray) : (Op.stringOp .neq a a).run P W = .ok (.bool false) W := by
  simp [Op.stringOp]
theorem run_str_eq {P : Program} (W : World) {a b : ByteArray} (h : a ≠ b) : (Op.stringOp .eql a b).run P W = .ok (.bool false) W := by
  have : (a.toList == b.toList) = false := by simpa using fun h' => h (toList_inj h')
  simp [Op.stringOp, this]
theorem run_str_eq_same {P : Program} (W : World) (a : ByteArray) : (Op.stringOp .eql a a).run P W = .ok (.bool true) W := by
  simp [Op.stringOp]
theorem firstKind_more {text : ByteArray} {parts : List ByteArray} {nums : List Int} {o : OpD} {k : Nat} (h : firstKind text parts nums k = some o) : ∀ m, k ≤ m → firstKind text parts nums m = some o
  | 0, hm => by obtain rfl : k = 0 := by omega
                exact h
  | m + 1, hm => by
    rcases Nat.lt_or_ge m k with hc | hc
    · obtain rfl : k = m + 1 := by omega
      exact h
    · have := firstKind_more h m hc
      show (match firstKind text parts nums m with | some o => some o | none => tryKind text parts nums ((m : Int) + 1)) = some o
      rw [this]
theorem numsTo_len {parts : List ByteArray} : ∀ {j : Nat} {l : List Int}, numsTo parts j = some l → l.length = j
  | 0, l, h => by
    obtain rfl : [] = l := by simpa [numsTo] using h
    rfl
  | j + 1, l, h => by
    have h' : (match numsTo parts j with | none => none | some l => match numB (parts.getD (j + 1) noB) with | none => none | some x => some (l ++ [x])) = some l := h
    cases hd : numsTo parts j with
    | none => rw [hd] at h'; cases h'
    | some m =>
      rw [hd] at h'
      simp only at h'
      cases hn : numB (parts.getD (j + 1) noB) with
      | none => rw [hn] at h'; cases h'
      | some x =>
        rw [hn] at h'
        obtain rfl : m ++ [x] = l := by simpa using h'
        have := numsTo_len hd
        simp [this]
theorem numsTo_none {parts : List ByteArray} {k : Nat} (h : numsTo parts k = none) : ∀ m, k ≤ m → numsTo parts m = none
  | 0, hm => by obtain rfl : k = 0 := by omega
                exact h
  | m + 1, hm => by
    rcases Nat.lt_or_ge m k with hc | hc
    · obtain rfl : k = m + 1 := by omega
      exact h
    · have := numsTo_none h m hc
      show (match numsTo parts m with | none => none | some l => match numB (parts.getD (m + 1) noB) with | none => none | some x => some (l ++ [x])) = none
      rw [this]
theorem numB_bound {s : ByteArray} {n : Int} (h : numB s = some n) : InI64 n := by
  have key : ∀ (t : ByteArray) (neg : Bool) (n : Int), numBody t neg = some n → InI64 n := by
    intro t neg n h
    unfold numBody at h
    split at h
    · cases h
    · next hc =>
      have h17 : t.size ≤ 17 := by
        rcases Nat.lt_or_ge 17 t.size with h | h
        · exact absurd (.inr (.inl h)) hc
        · exact h
      cases hd : digsTo t t.size with
      | none => rw [hd] at h; cases h
      | some m =>
        rw [hd] at h
        have hb := digsTo_bound hd
        have h1 : (10 : Int) ^ t.size ≤ 10 ^ 17 := by exact_mod_cast Nat.pow_le_pow_right (by decide) h17
        have h2 : (10 : Int) ^ 17 = 100000000000000000 := by decide
        simp only [Option.map_some, Option.some.injEq] at h
        unfold InI64
        split at h <;> omega
  unfold numB at h
  split at h
  · exact key _ _ _ h
  · exact key _ _ _ h
theorem numsTo_bound {parts : List ByteArray} : ∀ {j : Nat} {l : List Int}, numsTo parts j = some l → ∀ x ∈ l, InI64 x
  | 0, l, h, x, hx => by
    obtain rfl : [] = l := by simpa [numsTo] using h
    cases hx
  | j + 1, l, h, x, hx => by
    have h' : (match numsTo parts j with | none => none | some l => match numB (parts.getD (j + 1) noB) with | none => none | some x => some (l ++ [x])) = some l := h
    cases hd : numsTo parts j with
    | none => rw [hd] at h'; cases h'
    | some m =>
      rw [hd] at h'
      simp only at h'
      cases hn : numB (parts.getD (j + 1) noB) with
      | none => rw [hn] at h'; cases h'
      | some y =>
        rw [hn] at h'
        obtain rfl : m ++ [y] = l := by simpa using h'
        rcases List.mem_append.1 hx with hx | hx
        · exact numsTo_bound hd x hx
        · obtain rfl := List.mem_singleton.1 hx
          exact numB_bound hn
theorem makeOp_bound {k : Int} {nums : List Int} (hb : ∀ x ∈ nums, InI64 x) {o : OpD} (h : makeOp k nums = some o) : InI64 o.on ∧ InI64 o.arg := by
  have hg : ∀ j, InI64 (nums.getD j 0) := by
    intro j
    rw [List.getD_eq_getElem?_getD]
    cases hj : nums[j]? with
    | none => show InI64 0; unfold InI64; omega
    | some x => exact hb x (List.mem_of_getElem? hj)
  have h0 : InI64 0 := by unfold InI64; omega
  unfold makeOp at h
  split at h
  · cases h; exact ⟨h0, hg 0⟩
  · split at h
    · cases h; exact ⟨hg 0, h0⟩
    · split at h
      · cases h; exact ⟨hg 0, hg 1⟩
      · cases h

end Go.Proofs.Ytklbjnphfpjgeaa
namespace Go.Proofs.Ytklbjnphfpjgeaa
open Go.RowKit

def lineOf (parts : List ByteArray) (word : ByteArray) : Option (List Int) :=
  if parts.getD 0 noB = word then
    if parts.length < 2 then none
    else (numsTo parts (Nat.min (parts.length - 1) 5)).bind fun l => if l.length = parts.length - 1 then some l else none
  else none
def lineB (line word : ByteArray) : Option (List Int) := lineOf (cutB line 32) word

end Go.Proofs.Ytklbjnphfpjgeaa
namespace Go.Proofs.Ytklbjnphfpjgeaa
open Go.RowKit

/-- A row of one type does not lie in a block of another. -/
theorem blk_owns {w : World} {G : Nat} {cs : Array Value} {t : TypeId} (h : Blk w G cs t) {B : Nat} {e : TypeId} {sz n c : Nat} {a : Option Addr} {xs : List Value} (ho : w.ownsRow B e sz (.slice a n c) n xs) (hne : t ≠ e) : rowOf a ≠ some G := by
  intro hk
  rcases ho.2 with ⟨h', h0⟩ | ⟨g, cap, cur, h', hb, hg, hnc, hcm, hcs, htake⟩
  · simp only [Value.slice.injEq] at h'
    rw [h'.1] at hk; cases hk
  · simp only [Value.slice.injEq, true_and] at h'
    obtain ⟨rfl, rfl⟩ := h'
    obtain rfl : g = G := by simpa [rowOf] using hk
    unfold Blk at h
    rw [h] at hg
    simp only [Option.some.injEq, Obj.cells.injEq] at hg
    exact hne hg.2.1
theorem owns_owns {w : World} {B B' : Nat} {e e' : TypeId} {sz sz' n n' c c' : Nat} {a a' : Option Addr} {xs xs' : List Value} (h : w.ownsRow B e sz (.slice a n c) n xs) (h' : w.ownsRow B' e' sz' (.slice a' n' c') n' xs') (hne : e ≠ e') : ∀ k, rowOf a = some k → rowOf a' = some k → False := by
  intro k hk hk'
  rcases h.2 with ⟨h1, h0⟩ | ⟨g, cap, cur, h1, hb, hg, _⟩
  · simp only [Value.slice.injEq] at h1
    rw [h1.1] at hk; cases hk
  · simp only [Value.slice.injEq, true_and] at h1
    obtain ⟨rfl, rfl⟩ := h1
    obtain rfl : g = k := by simpa [rowOf] using hk
    exact blk_owns hg h' hne hk'

theorem types_ne : (3 : TypeId) ≠ 62 ∧ (64 : TypeId) ≠ 62 ∧ (56 : TypeId) ≠ 3 ∧ (56 : TypeId) ≠ 62 ∧ (56 : TypeId) ≠ 64 ∧ (3 : TypeId) ≠ 64 := by decide

theorem Inner.types {w : World} {vs : List Value} {rows : List (List Value)} (h : Inner w vs rows) : ∀ k ∈ fpV vs, ∃ cs fr, w.heap[k]? = some (.cells cs 64 fr) := by
  intro k hk
  obtain ⟨v, hv, hvk⟩ := List.mem_filterMap.1 hk
  obtain ⟨i, hi, e⟩ := List.mem_iff_getElem.1 hv
  obtain ⟨a', m, c', e', ho⟩ := h.inn i hi
  have : vs.getD i undef = v := by rw [List.getD_eq_getElem?_getD, List.getElem?_eq_getElem hi]; simp [e]
  rw [this] at e'
  subst e'
  rw [ownBlock_slice] at hvk
  rcases ho.2 with ⟨h1, h0⟩ | ⟨g, cap, cur, h1, hb, hg, _⟩
  · simp only [Value.slice.injEq] at h1
    rw [h1.1] at hvk; cases hvk
  · simp only [Value.slice.injEq, true_and] at h1
    obtain ⟨rfl, rfl⟩ := h1
    obtain rfl : g = k := by simpa [rowOf] using hvk
    exact ⟨_, _, hg⟩
theorem Inner.not_row {w : World} {vs : List Value} {rows : List (List Value)} (h : Inner w vs rows) {B : Nat} {e : TypeId} {sz n c : Nat} {a : Option Addr} {xs : List Value} (ho : w.ownsRow B e sz (.slice a n c) n xs) (hne : 64 ≠ e) : ∀ k, rowOf a = some k → k ∉ fpV vs := by
  intro k hk hm
  obtain ⟨cs, fr, hb⟩ := h.types k hm
  rcases ho.2 with ⟨h1, h0⟩ | ⟨g, cap, cur, h1, hb', hg, _⟩
  · simp only [Value.slice.injEq] at h1
    rw [h1.1] at hk; cases hk
  · simp only [Value.slice.injEq, true_and] at h1
    obtain ⟨rfl, rfl⟩ := h1
    obtain rfl : g = k := by simpa [rowOf] using hk
    rw [hb] at hg
    simp only [Option.some.injEq, Obj.cells.injEq] at hg
    exact hne hg.2.1
theorem Inner.not_blk {w : World} {vs : List Value} {rows : List (List Value)} (h : Inner w vs rows) {G : Nat} {cs : Array Value} {t : TypeId} (hb : Blk w G cs t) (hne : 64 ≠ t) : G ∉ fpV vs := by
  intro hm
  obtain ⟨cs', fr, hb'⟩ := h.types G hm
  unfold Blk at hb
  rw [hb] at hb'
  simp only [Option.some.injEq, Obj.cells.injEq] at hb'
  exact hne hb'.2.1.symm

/-- The copy, when k threads are in. -/
structure CopyAt (w : World) (B G : Nat) (v : PV) (vs : List Value) (p : Pg) (k : Nat) : Prop where
  blk : Blk w G #[.slice v.s v.ns v.cs, .slice v.g v.ng v.cg, .slice v.b v.nb v.cb, .slice v.r v.nr v.cr, .slice v.t v.nt v.ct] 56
  os : w.ownsRow B 3 1 (.slice v.s v.ns v.cs) v.ns (ints p.sems)
  og : w.ownsRow B 3 1 (.slice v.g v.ng v.cg) v.ng (ints p.groups)
  ob : w.ownsRow B 3 1 (.slice v.b v.nb v.cb) v.nb (ints p.barriers)
  orr : w.ownsRow B 3 1 (.slice v.r v.nr v.cr) v.nr (ints p.rooms)
  ot : w.ownsRow B 62 1 (.slice v.t v.nt v.ct) v.nt vs
  inn : Inner w vs ((p.threads.take k).map opsV)
  nd : (fpV vs).Nodup
  lo : ∀ q ∈ fpV vs, B ≤ q

theorem CopyAt.below {w w' : World} {B G : Nat} {v : PV} {vs : List Value} {p : Pg} {k : Nat} (h : CopyAt w B G v vs p k) (hb : Below w.heap.size w w') : CopyAt w' B G v vs p k :=
  ⟨h.blk.below hb, owns_below h.os hb, owns_below h.og hb, owns_below h.ob hb, owns_below h.orr hb, owns_below h.ot hb, h.inn.below hb, h.nd, h.lo⟩

def PV.thr (v : PV) (a : Option Addr) (n c : Nat) : PV := ⟨v.s, v.ns, v.cs, v.g, v.ng, v.cg, v.b, v.nb, v.cb, v.r, v.nr, v.cr, a, n, c⟩

theorem grown_set (w : World) (G j : Nat) (x : Value) : w.grownBy (w.setCell ⟨G, j, none⟩ x) (some G) := ⟨rfl, rfl, rfl, by simp, fun i _ hi => Below.heap_setCell _ _ _ _ (fun e => hi (by rw [e]))⟩

/-- One thread more. -/
theorem CopyAt.step {w w' : World} {B G : Nat} {v : PV} {vs : List Value} {p : Pg} {k : Nat} (h : CopyAt w B G v vs p k) (hk : k < p.threads.length) {a2 : Option Addr} {m c2 : Nat} (h2 : w.ownsRow 0 64 3 (.slice a2 m c2) m (opsV (p.threads.getD k [])))
    (hf : ∀ q, rowOf a2 = some q → B ≤ q ∧ q ∉ fpV vs) {a : Option Addr} {n c : Nat} (ho : w'.ownsRow B 62 1 (.slice a n c) n (vs ++ [.slice a2 m c2])) (hg : w.grownBy w' (rowOf v.t)) :
    CopyAt (w'.setCell ⟨G, 4, none⟩ (.slice a n c)) B G (v.thr a n c) (vs ++ [.slice a2 m c2]) p (k + 1) := by
  obtain ⟨t1, t2, t3, t4, t5, t6⟩ := types_ne
  have r1 : rowOf v.t ≠ some G := blk_owns h.blk h.ot t4
  have b1 := h.blk.grown hg r1
  have hin := h.inn.snoc h2
  have hin1 := hin.grown hg (hin.not_row h.ot t2)
  have s1 := owns_grown h.os hg (owns_owns h.os h.ot t1)
  have s2 := owns_grown h.og hg (owns_owns h.og h.ot t1)
  have s3 := owns_grown h.ob hg (owns_owns h.ob h.ot t1)
  have s4 := owns_grown h.orr hg (owns_owns h.orr h.ot t1)
  have g2 := grown_set w' G 4 (.slice a n c)
  have far : ∀ {e : TypeId} {sz n' c' B' : Nat} {a' : Option Addr} {xs : List Value}, w'.ownsRow B' e sz (.slice a' n' c') n' xs → 56 ≠ e → ∀ q, rowOf a' = some q → some G = some q → False := by
    intro e sz n' c' B' a' xs ho' hne q hq e'
    cases e'
    exact blk_owns b1 ho' hne hq
  refine ⟨?_, owns_grown s1 g2 (far s1 t3), owns_grown s2 g2 (far s2 t3), owns_grown s3 g2 (far s3 t3), owns_grown s4 g2 (far s4 t3), owns_grown ho g2 (far ho t4), ?_, ?_, ?_⟩
  · have := b1.set 4 (.slice a n c)
    simpa [PV.thr] using this
  · rw [rows_take_succ p.threads k hk]
    exact hin1.grown g2 (fun q hq => by cases hq; exact hin1.not_blk b1 (fun e => t5 e.symm))
  · rw [fpV_snoc]
    exact nodup_snoc h.nd (fun q hq => (hf q hq).2)
  · intro q hq
    rw [fpV_snoc, List.mem_append] at hq
    rcases hq with hq | hq
    · exact h.lo q hq
    · exact (hf q (by simpa using hq)).1

/-- The rows of a whole copy. -/
theorem CopyAt.own {w : World} {B G : Nat} {v : PV} {vs : List Value} {p : Pg} {k : Nat} (h : CopyAt w B G v vs p k) (hk : k = p.threads.length) : OwnP w v vs p.cells := by
  have e : p.threads.take k = p.threads := by rw [hk, List.take_length]
  have hin := h.inn
  rw [e] at hin
  exact ⟨owns_mono h.os (Nat.zero_le _), owns_mono h.og (Nat.zero_le _), owns_mono h.ob (Nat.zero_le _), owns_mono h.orr (Nat.zero_le _), OwnT.of_inner (owns_mono h.ot (Nat.zero_le _)) hin⟩
theorem CopyAt.fresh {w : World} {B G : Nat} {v : PV} {vs : List Value} {p : Pg} {k : Nat} (h : CopyAt w B G v vs p k) : ∀ q ∈ fpP v vs, B ≤ q := by
  intro q hq
  unfold fpP at hq
  simp only [List.mem_append, Option.mem_toList] at hq
  rcases hq with hq | hq | hq | hq | hq
  · exact (owns_row h.os q hq).1
  · exact (owns_row h.og q hq).1
  · exact (owns_row h.ob q hq).1
  · exact (owns_row h.orr q hq).1
  · rw [fpT_eq, List.mem_append] at hq
    rcases hq with hq | hq
    · exact (owns_row h.ot q (by simpa using hq)).1
    · exact h.lo q hq

/-- Thread i of a program, in memory. -/
theorem RdP.thr {w : World} {v : PV} {p : Pg} (h : RdP w v p) (hne : 0 < p.threads.length) : ∃ b o, v.t = some ⟨b, o, none⟩ ∧ ∀ i, i < p.threads.length → ∃ a' c', w.cell? ⟨b, o + i, none⟩ = some (.slice a' (p.threads.getD i []).length c') ∧ Rd w a' (opsV (p.threads.getD i [])) := by
  obtain ⟨vs, hT⟩ := h.rt
  exact hT.thread hne

/-- The four rows of numbers lie apart, where they are not empty; an empty one has no room. -/
structure Four (v : PV) : Prop where
  sg : ∀ k, slBk v.ns (.slice v.s v.ns v.cs) = some k → slBk v.ng (.slice v.g v.ng v.cg) ≠ some k
  sb : ∀ k, slBk v.ns (.slice v.s v.ns v.cs) = some k → slBk v.nb (.slice v.b v.nb v.cb) ≠ some k
  sr : ∀ k, slBk v.ns (.slice v.s v.ns v.cs) = some k → slBk v.nr (.slice v.r v.nr v.cr) ≠ some k
  gb : ∀ k, slBk v.ng (.slice v.g v.ng v.cg) = some k → slBk v.nb (.slice v.b v.nb v.cb) ≠ some k
  gr : ∀ k, slBk v.ng (.slice v.g v.ng v.cg) = some k → slBk v.nr (.slice v.r v.nr v.cr) ≠ some k
  br : ∀ k, slBk v.nb (.slice v.b v.nb v.cb) = some k → slBk v.nr (.slice v.r v.nr v.cr) ≠ some k
  zs : v.ns = 0 → v.cs = 0
  zg : v.ng = 0 → v.cg = 0
  zb : v.nb = 0 → v.cb = 0
  zr : v.nr = 0 → v.cr = 0

theorem Four.thr {v : PV} (h : Four v) (a : Option Addr) (n c : Nat) : Four (v.thr a n c) := ⟨h.sg, h.sb, h.sr, h.gb, h.gr, h.br, h.zs, h.zg, h.zb, h.zr⟩

/-- The four rows of numbers lie apart. -/
structure FourF (v : PV) : Prop where
  sg : ∀ k, rowOf v.s = some k → rowOf v.g ≠ some k
  sb : ∀ k, rowOf v.s = some k → rowOf v.b ≠ some k
  sr : ∀ k, rowOf v.s = some k → rowOf v.r ≠ some k
  gb : ∀ k, rowOf v.g = some k → rowOf v.b ≠ some k
  gr : ∀ k, rowOf v.g = some k → rowOf v.r ≠ some k
  br : ∀ k, rowOf v.b = some k → rowOf v.r ≠ some k
theorem FourF.of {a0 a1 a2 a3 a : Option Addr} {n0 n1 n2 n3 n c0 c1 c2 c3 c : Nat}
    (h1 : ∀ k, Value.ownBlock (.slice a0 n0 c0) = some k → Value.ownBlock (.slice a1 n1 c1) ≠ some k) (h2 : ∀ k, Value.ownBlock (.slice a0 n0 c0) = some k → Value.ownBlock (.slice a2 n2 c2) ≠ some k)
    (h3 : ∀ k, Value.ownBlock (.slice a0 n0 c0) = some k → Value.ownBlock (.slice a3 n3 c3) ≠ some k) (h4 : ∀ k, Value.ownBlock (.slice a1 n1 c1) = some k → Value.ownBlock (.slice a2 n2 c2) ≠ some k)
    (h5 : ∀ k, Value.ownBlock (.slice a1 n1 c1) = some k → Value.ownBlock (.slice a3 n3 c3) ≠ some k) (h6 : ∀ k, Value.ownBlock (.slice a2 n2 c2) = some k → Value.ownBlock (.slice a3 n3 c3) ≠ some k) :
    FourF ⟨a0, n0, c0, a1, n1, c1, a2, n2, c2, a3, n3, c3, a, n, c⟩ := by
  simp only [ownBlock_slice] at h1 h2 h3 h4 h5 h6
  exact ⟨h1, h2, h3, h4, h5, h6⟩
theorem FourF.thr {v : PV} (h : FourF v) (a : Option Addr) (n c : Nat) : FourF (v.thr a n c) := ⟨h.sg, h.sb, h.sr, h.gb, h.gr, h.br⟩

theorem CopyAt.nodup {w : World} {B G : Nat} {v : PV} {vs : List Value} {p : Pg} {k : Nat} (h : CopyAt w B G v vs p k) (f : FourF v) : (fpP v vs).Nodup := by
  obtain ⟨t1, t2, t3, t4, t5, t6⟩ := types_ne
  have ht : (fpT v.t vs).Nodup := by
    rw [fpT_eq]
    exact nodup_opt h.nd (h.inn.not_row h.ot t2)
  have no : ∀ {a : Option Addr} {n c : Nat} {xs : List Value}, w.ownsRow B 3 1 (.slice a n c) n xs → ∀ q, rowOf a = some q → q ∉ fpT v.t vs := by
    intro a n c xs ho q hq hm
    rw [fpT_eq, List.mem_append] at hm
    rcases hm with hm | hm
    · exact owns_owns ho h.ot t1 q hq (by simpa using hm)
    · exact h.inn.not_row ho (fun e => t6 e.symm) q hq hm
  unfold fpP
  refine nodup_opt (nodup_opt (nodup_opt (nodup_opt ht (no h.orr)) (fun q hq hm => ?_)) (fun q hq hm => ?_)) (fun q hq hm => ?_)
  all_goals simp only [List.mem_append, Option.mem_toList] at hm
  · rcases hm with hm | hm
    · exact f.br q hq hm
    · exact no h.ob q hq hm
  · rcases hm with hm | hm | hm
    · exact f.gb q hq hm
    · exact f.gr q hq hm
    · exact no h.og q hq hm
  · rcases hm with hm | hm | hm | hm
    · exact f.sg q hq hm
    · exact f.sb q hq hm
    · exact f.sr q hq hm
    · exact no h.os q hq hm

end Go.Proofs.Ytklbjnphfpjgeaa
namespace Go.Proofs.Ytklbjnphfpjgeaa
open Go.RowKit

def threadSpB : ByteArray := ⟨#[116, 104, 114, 101, 97, 100, 32]⟩
def pieceOp (x : ByteArray) (i : Nat) : Option OpD :=
  if i = 0 then parseOp x else if x = noB then none else if byteAt x 0 = 32 then parseOp (x.extract 1 x.size) else none
def opsFrom (parts : List ByteArray) : Nat → Option (List OpD)
  | 0 => some []
  | i + 1 => match opsFrom parts i with
    | none => none
    | some l => match pieceOp (parts.getD i noB) i with
      | none => none
      | some o => some (l ++ [o])
def threadOf (parts : List ByteArray) : Option (List OpD) :=
  if parts.length ≤ 8 then opsFrom parts parts.length else none
def threadLine (line : ByteArray) : Option (List OpD) :=
  if line = threadB then some []
  else if line.size < 7 then none
  else if line.extract 0 7 = threadSpB then threadOf (cutB (line.extract 7 line.size) 44)
  else none
theorem opsFrom_len {parts : List ByteArray} : ∀ {j : Nat} {l : List OpD}, opsFrom parts j = some l → l.length = j
  | 0, l, h => by
    obtain rfl : [] = l := by simpa [opsFrom] using h
    rfl
  | j + 1, l, h => by
    have h' : (match opsFrom parts j with | none => none | some l => match pieceOp (parts.getD j noB) j with | none => none | some x => some (l ++ [x])) = some l := h
    cases hd : opsFrom parts j with
    | none => rw [hd] at h'; cases h'
    | some m =>
      rw [hd] at h'
      simp only at h'
      cases hn : pieceOp (parts.getD j noB) j with
      | none => rw [hn] at h'; cases h'
      | some x =>
        rw [hn] at h'
        obtain rfl : m ++ [x] = l := by simpa using h'
        have := opsFrom_len hd
        simp [this]
theorem opsFrom_none {parts : List ByteArray} {k : Nat} (h : opsFrom parts k = none) : ∀ m, k ≤ m → opsFrom parts m = none
  | 0, hm => by obtain rfl : k = 0 := by omega
                exact h
  | m + 1, hm => by
    rcases Nat.lt_or_ge m k with hc | hc
    · obtain rfl : k = m + 1 := by omega
      exact h
    · have := opsFrom_none h m hc
      show (match opsFrom parts m with | none => none | some l => match pieceOp (parts.getD m noB) m with | none => none | some x => some (l ++ [x])) = none
      rw [this]

end Go.Proofs.Ytklbjnphfpjgeaa
namespace Go.Proofs.Ytklbjnphfpjgeaa
open Go.RowKit

theorem valid_i64 {p : Pg} (hv : progValid p = true) (i j : Nat) (hi : i < p.threads.length) (hj : j < (p.threads.getD i []).length) : InI64 ((p.threads.getD i []).getD j noOp).on ∧ InI64 ((p.threads.getD i []).getD j noOp).arg := by
  obtain ⟨⟨h1, h2⟩, h3, h4⟩ := valid_bounds hv (valid_op hv hi hj)
  unfold InI64
  omega
theorem within_i64 {l : List Int} {lo hi : Int} (h : within l lo hi = true) (h0 : -9 ≤ lo) (h1 : hi ≤ 9) : ∀ j, j < l.length → InI64 (l.getD j 0) := fun j hj => by
  have := (within_facts h).2 j hj
  unfold InI64
  omega
theorem listsText_size {p : Pg} (hv : progValid p = true) : (listsText p).size ≤ 288 := by
  obtain ⟨h1, h2, h3, h4⟩ := valid_lists hv
  have a1 := listText_size (word := semsB) (within_i64 h1 (by omega) (by omega)) (by decide) (within_facts h1).1
  have a2 := listText_size (word := groupsB) (within_i64 h2 (by omega) (by omega)) (by decide) (within_facts h2).1
  have a3 := listText_size (word := barriersB) (within_i64 h3 (by omega) (by omega)) (by decide) (within_facts h3).1
  have a4 := listText_size (word := roomsB) (within_i64 h4 (by omega) (by omega)) (by decide) (within_facts h4).1
  unfold listsText
  simp only [ByteArray.size_append]
  omega
theorem fmtProg_size (p : Pg) : (fmtProg p).size ≤ 1948 := by
  unfold fmtProg
  split
  · next hv =>
    have h := thrTo_size (s := listsText p) (fun i hi => valid_len hv hi) (fun i j hi hj => valid_i64 hv i j hi hj) p.threads.length (Nat.le_refl _)
    have h2 := listsText_size hv
    have h3 := valid_threads hv
    omega
  · show 0 ≤ 1948; omega

end Go.Proofs.Ytklbjnphfpjgeaa
namespace Go.Proofs.Ytklbjnphfpjgeaa
open Go.RowKit

def zeroPg : Pg := ⟨[], [], [], [], []⟩
def stepLine (p : Pg) (x : ByteArray) : Pg :=
  match lineB x semsB with
  | some l => { p with sems := l }
  | none => match lineB x groupsB with
    | some l => { p with groups := l }
    | none => match lineB x barriersB with
      | some l => { p with barriers := l }
      | none => match lineB x roomsB with
        | some l => { p with rooms := l }
        | none => match threadLine x with
          | some t => { p with threads := p.threads ++ [t] }
          | none => p
def linesTo (lines : List ByteArray) : Nat → Pg
  | 0 => zeroPg
  | i + 1 => stepLine (linesTo lines i) (lines.getD i noB)
def readLines (lines : List ByteArray) : Pg := linesTo lines (Nat.min (lines.length - 1) 9)
def parseProg (text : ByteArray) : Option Pg :=
  if progValid (readLines (cutB text 10)) = true then
    if fmtProg (readLines (cutB text 10)) = text then some (readLines (cutB text 10)) else none
  else none

theorem lineB_len {x word : ByteArray} {l : List Int} (h : lineB x word = some l) : l.length ≤ 5 := by
  unfold lineB lineOf at h
  split at h
  · split at h
    · cases h
    · cases hn : numsTo (cutB x 32) (Nat.min ((cutB x 32).length - 1) 5) with
      | none => rw [hn] at h; cases h
      | some m =>
        rw [hn] at h
        have hl := numsTo_len hn
        simp only [Option.bind_some] at h
        split at h
        · obtain rfl : m = l := by simpa using h
          rw [hl]
          exact Nat.min_le_right _ _
        · cases h
  · cases h
theorem threadLine_len {x : ByteArray} {l : List OpD} (h : threadLine x = some l) : l.length ≤ 8 := by
  unfold threadLine at h
  split at h
  · obtain rfl : [] = l := by simpa using h
    simp
  · split at h
    · cases h
    · split at h
      · unfold threadOf at h
        split at h
        · next h8 => rw [opsFrom_len h]; exact h8
        · cases h
      · cases h
structure ShortP (p : Pg) (k : Nat) : Prop where
  s : p.sems.length ≤ 5
  g : p.groups.length ≤ 5
  b : p.barriers.length ≤ 5
  r : p.rooms.length ≤ 5
  t : p.threads.length ≤ k
  i : ∀ t ∈ p.threads, t.length ≤ 8
theorem linesTo_small (lines : List ByteArray) : ∀ i, ShortP (linesTo lines i) i
  | 0 => ⟨by simp [linesTo, zeroPg], by simp [linesTo, zeroPg], by simp [linesTo, zeroPg], by simp [linesTo, zeroPg], by simp [linesTo, zeroPg], by simp [linesTo, zeroPg]⟩
  | i + 1 => by
    have h := linesTo_small lines i
    show ShortP (stepLine (linesTo lines i) (lines.getD i noB)) (i + 1)
    have h' : ShortP (linesTo lines i) (i + 1) := ⟨h.s, h.g, h.b, h.r, Nat.le_succ_of_le h.t, h.i⟩
    unfold stepLine
    split
    · next l e => exact ⟨lineB_len e, h'.g, h'.b, h'.r, h'.t, h'.i⟩
    · split
      · next l e => exact ⟨h'.s, lineB_len e, h'.b, h'.r, h'.t, h'.i⟩
      · split
        · next l e => exact ⟨h'.s, h'.g, lineB_len e, h'.r, h'.t, h'.i⟩
        · split
          · next l e => exact ⟨h'.s, h'.g, h'.b, lineB_len e, h'.t, h'.i⟩
          · split
            · next l e =>
              refine ⟨h'.s, h'.g, h'.b, h'.r, by have := h.t; simp; omega, fun t ht => ?_⟩
              rcases List.mem_append.1 ht with ht | ht
              · exact h'.i t ht
              · obtain rfl := List.mem_singleton.1 ht
                exact threadLine_len e
            · exact h'

theorem CopyAt.zero (w : World) (B G : Nat) (h : Blk w G #[.slice none 0 0, .slice none 0 0, .slice none 0 0, .slice none 0 0, .slice none 0 0] 56) :
    CopyAt w B G ⟨none, 0, 0, none, 0, 0, none, 0, 0, none, 0, 0, none, 0, 0⟩ [] zeroPg 0 :=
  ⟨h, ⟨by simp [zeroPg, ints], .inl ⟨rfl, rfl⟩⟩, ⟨by simp [zeroPg, ints], .inl ⟨rfl, rfl⟩⟩, ⟨by simp [zeroPg, ints], .inl ⟨rfl, rfl⟩⟩, ⟨by simp [zeroPg, ints], .inl ⟨rfl, rfl⟩⟩, ⟨by simp, .inl ⟨rfl, rfl⟩⟩, Inner.nil w, by simp [fpV], by simp [fpV]⟩
theorem CopyAt.sems {w : World} {B G : Nat} {v : PV} {vs : List Value} {p : Pg} {k : Nat} (h : CopyAt w B G v vs p k) {a : Option Addr} {n c : Nat} {l : List Int} (ho : w.ownsRow B 3 1 (.slice a n c) n (ints l)) :
    CopyAt (w.setCell ⟨G, 0, none⟩ (.slice a n c)) B G { v with s := a, ns := n, cs := c } vs { p with sems := l } k := by
  obtain ⟨t1, t2, t3, t4, t5, t6⟩ := types_ne
  have g2 := grown_set w G 0 (.slice a n c)
  have far : ∀ {e : TypeId} {sz n' c' B' : Nat} {a' : Option Addr} {xs : List Value}, w.ownsRow B' e sz (.slice a' n' c') n' xs → 56 ≠ e → ∀ q, rowOf a' = some q → some G = some q → False := by
    intro e sz n' c' B' a' xs ho' hne q hq e'
    cases e'
    exact blk_owns h.blk ho' hne hq
  have s0 := owns_grown ho g2 (far ho t3)
  exact ⟨by simpa using h.blk.set 0 (.slice a n c), s0, (owns_grown h.og g2 (far h.og t3)), (owns_grown h.ob g2 (far h.ob t3)), (owns_grown h.orr g2 (far h.orr t3)), owns_grown h.ot g2 (far h.ot t4), h.inn.grown g2 (fun q hq => by cases hq; exact h.inn.not_blk h.blk (fun e => t5 e.symm)), h.nd, h.lo⟩
theorem CopyAt.groups {w : World} {B G : Nat} {v : PV} {vs : List Value} {p : Pg} {k : Nat} (h : CopyAt w B G v vs p k) {a : Option Addr} {n c : Nat} {l : List Int} (ho : w.ownsRow B 3 1 (.slice a n c) n (ints l)) :
    CopyAt (w.setCell ⟨G, 1, none⟩ (.slice a n c)) B G { v with g := a, ng := n, cg := c } vs { p with groups := l } k := by
  obtain ⟨t1, t2, t3, t4, t5, t6⟩ := types_ne
  have g2 := grown_set w G 1 (.slice a n c)
  have far : ∀ {e : TypeId} {sz n' c' B' : Nat} {a' : Option Addr} {xs : List Value}, w.ownsRow B' e sz (.slice a' n' c') n' xs → 56 ≠ e → ∀ q, rowOf a' = some q → some G = some q → False := by
    intro e sz n' c' B' a' xs ho' hne q hq e'
    cases e'
    exact blk_owns h.blk ho' hne hq
  have s0 := owns_grown ho g2 (far ho t3)
  exact ⟨by simpa using h.blk.set 1 (.slice a n c), (owns_grown h.os g2 (far h.os t3)), s0, (owns_grown h.ob g2 (far h.ob t3)), (owns_grown h.orr g2 (far h.orr t3)), owns_grown h.ot g2 (far h.ot t4), h.inn.grown g2 (fun q hq => by cases hq; exact h.inn.not_blk h.blk (fun e => t5 e.symm)), h.nd, h.lo⟩
theorem CopyAt.barriers {w : World} {B G : Nat} {v : PV} {vs : List Value} {p : Pg} {k : Nat} (h : CopyAt w B G v vs p k) {a : Option Addr} {n c : Nat} {l : List Int} (ho : w.ownsRow B 3 1 (.slice a n c) n (ints l)) :
    CopyAt (w.setCell ⟨G, 2, none⟩ (.slice a n c)) B G { v with b := a, nb := n, cb := c } vs { p with barriers := l } k := by
  obtain ⟨t1, t2, t3, t4, t5, t6⟩ := types_ne
  have g2 := grown_set w G 2 (.slice a n c)
  have far : ∀ {e : TypeId} {sz n' c' B' : Nat} {a' : Option Addr} {xs : List Value}, w.ownsRow B' e sz (.slice a' n' c') n' xs → 56 ≠ e → ∀ q, rowOf a' = some q → some G = some q → False := by
    intro e sz n' c' B' a' xs ho' hne q hq e'
    cases e'
    exact blk_owns h.blk ho' hne hq
  have s0 := owns_grown ho g2 (far ho t3)
  exact ⟨by simpa using h.blk.set 2 (.slice a n c), (owns_grown h.os g2 (far h.os t3)), (owns_grown h.og g2 (far h.og t3)), s0, (owns_grown h.orr g2 (far h.orr t3)), owns_grown h.ot g2 (far h.ot t4), h.inn.grown g2 (fun q hq => by cases hq; exact h.inn.not_blk h.blk (fun e => t5 e.symm)), h.nd, h.lo⟩
theorem CopyAt.rooms {w : World} {B G : Nat} {v : PV} {vs : List Value} {p : Pg} {k : Nat} (h : CopyAt w B G v vs p k) {a : Option Addr} {n c : Nat} {l : List Int} (ho : w.ownsRow B 3 1 (.slice a n c) n (ints l)) :
    CopyAt (w.setCell ⟨G, 3, none⟩ (.slice a n c)) B G { v with r := a, nr := n, cr := c } vs { p with rooms := l } k := by
  obtain ⟨t1, t2, t3, t4, t5, t6⟩ := types_ne
  have g2 := grown_set w G 3 (.slice a n c)
  have far : ∀ {e : TypeId} {sz n' c' B' : Nat} {a' : Option Addr} {xs : List Value}, w.ownsRow B' e sz (.slice a' n' c') n' xs → 56 ≠ e → ∀ q, rowOf a' = some q → some G = some q → False := by
    intro e sz n' c' B' a' xs ho' hne q hq e'
    cases e'
    exact blk_owns h.blk ho' hne hq
  have s0 := owns_grown ho g2 (far ho t3)
  exact ⟨by simpa using h.blk.set 3 (.slice a n c), (owns_grown h.os g2 (far h.os t3)), (owns_grown h.og g2 (far h.og t3)), (owns_grown h.ob g2 (far h.ob t3)), s0, owns_grown h.ot g2 (far h.ot t4), h.inn.grown g2 (fun q hq => by cases hq; exact h.inn.not_blk h.blk (fun e => t5 e.symm)), h.nd, h.lo⟩
theorem CopyAt.more {w w' : World} {B G : Nat} {v : PV} {vs : List Value} {p : Pg} (h : CopyAt w B G v vs p p.threads.length) {t : List OpD} {a2 : Option Addr} {m c2 : Nat} (h2 : w.ownsRow 0 64 3 (.slice a2 m c2) m (opsV t))
    (hf : ∀ q, rowOf a2 = some q → B ≤ q ∧ q ∉ fpV vs) {a : Option Addr} {n c : Nat} (ho : w'.ownsRow B 62 1 (.slice a n c) n (vs ++ [.slice a2 m c2])) (hg : w.grownBy w' (rowOf v.t)) :
    CopyAt (w'.setCell ⟨G, 4, none⟩ (.slice a n c)) B G (v.thr a n c) (vs ++ [.slice a2 m c2]) { p with threads := p.threads ++ [t] } (p.threads ++ [t]).length := by
  have e1 : (p.threads ++ [t]).take p.threads.length = p.threads.take p.threads.length := by simp
  have h0 : CopyAt w B G v vs { p with threads := p.threads ++ [t] } p.threads.length := ⟨h.blk, h.os, h.og, h.ob, h.orr, h.ot, by show Inner w vs (((p.threads ++ [t]).take p.threads.length).map opsV); rw [e1]; exact h.inn, h.nd, h.lo⟩
  have := h0.step (by simp) (by show w.ownsRow 0 64 3 (.slice a2 m c2) m (opsV ((p.threads ++ [t]).getD p.threads.length [])); simpa [List.getD] using h2) hf ho hg
  simpa using this
theorem CopyAt.small {w : World} {B G : Nat} {v : PV} {vs : List Value} {p : Pg} {k : Nat} (h : CopyAt w B G v vs p p.threads.length) (hs : ShortP p k) (hk : k ≤ 9) : Small v p := by
  have h1 := h.os.1
  have h2 := h.og.1
  have h3 := h.ob.1
  have h4 := h.orr.1
  have h5 := h.ot.1
  have h6 := h.inn.len
  simp only [ints, List.length_map, List.take_length] at h1 h2 h3 h4 h6
  have := hs.s
  have := hs.g
  have := hs.b
  have := hs.r
  have := hs.t
  refine ⟨by omega, by omega, by omega, by omega, by omega, fun i => ?_⟩
  rw [List.getD_eq_getElem?_getD]
  cases hi : p.threads[i]? with
  | none => simp
  | some t =>
    have := hs.i t (List.mem_of_getElem? hi)
    simp only [Option.getD_some]
    omega
end Go.Proofs.Ytklbjnphfpjgeaa
namespace Go.Proofs.Ytklbjnphfpjgeaa
open Go.RowKit

theorem OwnP.zero (w : World) : OwnP w ⟨none, 0, 0, none, 0, 0, none, 0, 0, none, 0, 0, none, 0, 0⟩ [] zeroPg.cells :=
  ⟨⟨by simp [zeroPg, Pg.cells, ints], .inl ⟨rfl, rfl⟩⟩, ⟨by simp [zeroPg, Pg.cells, ints], .inl ⟨rfl, rfl⟩⟩, ⟨by simp [zeroPg, Pg.cells, ints], .inl ⟨rfl, rfl⟩⟩, ⟨by simp [zeroPg, Pg.cells, ints], .inl ⟨rfl, rfl⟩⟩, ⟨⟨by simp, .inl ⟨rfl, rfl⟩⟩, rfl, fun i hi => absurd hi (Nat.not_lt_zero _)⟩⟩
theorem Small.zero : Small ⟨none, 0, 0, none, 0, 0, none, 0, 0, none, 0, 0, none, 0, 0⟩ zeroPg := ⟨by simp, by simp, by simp, by simp, by simp, fun i => by simp [zeroPg]⟩

end Go.Proofs.Ytklbjnphfpjgeaa
namespace Go.Proofs.Ytklbjnphfpjgeaa
open Go.RowKit

end Go.Proofs.Ytklbjnphfpjgeaa
