/- Marks: every number of a program is written, and read back. -/
import Derived.Test.YtnobkdkfhgjeeabPgmTo
namespace Go.Proofs.Ytnobkdkfhgjeeab
open Go.RowKit

theorem seq_set_cells (k : Int) (cs : List Value) (j : Nat) (h : j < cs.length) : (ints (seq k j) ++ cs.drop j).set j (.int .i64 (k + j)) = ints (seq k (j + 1)) ++ cs.drop (j + 1) := by
  rw [List.drop_eq_getElem_cons h, seq_succ, List.set_append, if_neg (by simp [seq_len])]
  simp only [ints, List.length_map, seq_len, Nat.sub_self, List.set_cons_zero, List.map_append, List.map_cons, List.map_nil, List.append_assoc, List.cons_append, List.nil_append]

set_option maxHeartbeats 400000 in
theorem markIntS_cells (B n c : Nat) (a : Option Addr) (cs : List Value) (k0 : Int) (w : World) (hn : n ≤ 1099511627776) (hk0 : 0 ≤ k0) (hk1 : k0 ≤ 1099511627776)
    (h1 : w.ownsRow B 3 1 (.slice a n c) n cs) :
    Calls Try.prog 58 #[.slice a n c, .int .i64 k0] w fun e w' => e = .returned (.int .i64 (k0 + n)) ∧
      w'.ownsRow B 3 1 (.slice a n c) n (ints (seq k0 n)) ∧ w.grownBy w' (rowOf a) := by
  have HL : Hid (cs.length = n) := Lib.hid (by have := h1.1; omega)
  go_enter Try.func58, Try.ntmps58
  go_wp2
  go_loopw [1, 5] (fun q i wr => ∃ k : Nat, k ≤ n ∧ i = .int .i64 k ∧ q = .int .i64 (k0 + k) ∧ wr.ownsRow B 3 1 (.slice a n c) n (ints (seq k0 k) ++ cs.drop k) ∧ w.grownBy wr (rowOf a)) (fun _ i _ => n - (intOf i).toNat)
  case atStart => exact ⟨0, by omega, rfl, by simp, by simpa [seq] using h1, World.grownBy.refl _ _⟩
  case round =>
    obtain ⟨k, hk, rfl, rfl, hown, hgr⟩ := hrel
    by_cases hlt : k < n
    · obtain ⟨g, rfl, _, _⟩ := owns_at hown (by omega)
      have hL := HL.out
      obtain ⟨old, hold⟩ : ∃ old, wr.cell? ⟨g, k, none⟩ = some old := by
        rw [hown.cellAt k (by omega)]
        exact ⟨_, List.getElem?_eq_getElem (by simp [seq_len]; omega)⟩
      have hfz := hown.frozenAt k
      have R := owns_store hown k (.int .i64 (k0 + k)) (seq_set_cells k0 cs k (by omega))
      have HR := Lib.hid R
      clear R hown hL
      go_wp2
      go_roundw
      case rel => exact ⟨k + 1, by omega, by go_num, by go_num, HR.out.1, grown_trans hgr HR.out.2⟩
      case measure => simp [intOf]; omega
    · have hkn : k = n := by omega
      subst hkn
      go_wp2
      go_ret
      exact ⟨rfl, by rw [List.drop_of_length_le (by have := HL.out; omega)] at hown; simpa using hown, hgr⟩

set_option maxHeartbeats 1000000 in
theorem markOpS_any (B n c : Nat) (a : Option Addr) (cs : List Value) (k0 : Int) (w : World) (hn : n ≤ 1099511627776) (hk0 : 0 ≤ k0) (hk1 : k0 ≤ 1099511627776)
    (h1 : w.ownsRow B 44 3 (.slice a n c) n cs) :
    Calls Try.prog 95 #[.slice a n c, .int .i64 k0] w fun e w' => e = .returned (.int .i64 (k0 + cs.length)) ∧
      w'.ownsRow B 44 3 (.slice a n c) n (ints (seq k0 cs.length)) ∧ w.grownBy w' (rowOf a) := by
  have HL : Hid (cs.length = n * 3) := Lib.hid h1.1
  rw [HL.out]
  go_enter Try.func95, Try.ntmps95
  go_wp2
  go_loopw [1, 5] (fun q i wr => ∃ k : Nat, k ≤ n ∧ i = .int .i64 k ∧ q = .int .i64 (k0 + (k * 3 : Nat)) ∧ wr.ownsRow B 44 3 (.slice a n c) n (ints (seq k0 (k * 3)) ++ cs.drop (k * 3)) ∧ w.grownBy wr (rowOf a)) (fun _ i _ => n - (intOf i).toNat)
  case atStart => exact ⟨0, by omega, rfl, by simp, by simpa [seq] using h1, World.grownBy.refl _ _⟩
  case round =>
    obtain ⟨k, hk, rfl, rfl, hown, hgr⟩ := hrel
    by_cases hlt : k < n
    · obtain ⟨g, rfl, _, _⟩ := owns_at hown (by omega)
      have hL := HL.out
      obtain ⟨old, hold⟩ : ∃ old, wr.cell? ⟨g, k * 3, none⟩ = some old := by
        rw [hown.cellAt _ (by omega)]
        exact ⟨_, List.getElem?_eq_getElem (by rw [hown.1]; omega)⟩
      obtain ⟨old2, hold2⟩ : ∃ old, wr.cell? ⟨g, k * 3 + 1, none⟩ = some old := by
        rw [hown.cellAt _ (by omega)]
        exact ⟨_, List.getElem?_eq_getElem (by rw [hown.1]; omega)⟩
      obtain ⟨old3, hold3⟩ : ∃ old, wr.cell? ⟨g, k * 3 + 2, none⟩ = some old := by
        rw [hown.cellAt _ (by omega)]
        exact ⟨_, List.getElem?_eq_getElem (by rw [hown.1]; omega)⟩
      have hfz := hown.frozenAt (k * 3)
      have hfz2 := hown.frozenAt (k * 3 + 1)
      have hfz3 := hown.frozenAt (k * 3 + 2)
      have R1 := owns_store hown (k * 3) (.int .i64 (k0 + (k * 3 : Nat))) (seq_set_cells k0 cs (k * 3) (by omega))
      have R2 := owns_store R1.1 (k * 3 + 1) (.int .i64 (k0 + (k * 3 + 1 : Nat))) (seq_set_cells k0 cs (k * 3 + 1) (by omega))
      have R3 := owns_store R2.1 (k * 3 + 2) (.int .i64 (k0 + (k * 3 + 2 : Nat))) (seq_set_cells k0 cs (k * 3 + 2) (by omega))
      have e1 : k0 + ((k * 3 : Nat) : Int) = k0 + (k : Int) * 3 := by omega
      have e2 : k0 + ((k * 3 + 1 : Nat) : Int) = k0 + (k : Int) * 3 + 1 := by omega
      have e3 : k0 + ((k * 3 + 2 : Nat) : Int) = k0 + (k : Int) * 3 + 1 + 1 := by omega
      rw [e1] at R1 R2 R3
      rw [e2] at R2 R3
      rw [e3] at R3
      have HR1 := Lib.hid R1.2
      have HR2 := Lib.hid R2.2
      have HR3 := Lib.hid R3
      clear R1 R2 R3 hown hL e1 e2 e3
      go_wp2
      go_roundw
      case rel => exact ⟨k + 1, by omega, by go_num, by go_num, (by have := HR3.out.1; rwa [show k * 3 + 2 + 1 = (k + 1) * 3 from by omega] at this), grown_trans hgr (grown_trans HR1.out (grown_trans HR2.out HR3.out.2))⟩
      case measure => simp [intOf]; omega
    · have hkn : k = n := by omega
      subst hkn
      go_wp2
      go_ret
      exact ⟨rfl, by rw [List.drop_of_length_le (by have := HL.out; omega)] at hown; simpa using hown, hgr⟩

set_option maxHeartbeats 1000000 in
theorem heldOpS_yes (a : Option Addr) (c n : Nat) (k0 : Int) (w : World) (hn : n ≤ 1099511627776) (hk0 : 0 ≤ k0) (hk1 : k0 ≤ 1099511627776)
    (h1 : Rd w a (ints (seq k0 (n * 3)))) :
    Calls Try.prog 96 #[.slice a n c, .int .i64 k0] w fun e w' => e = .returned (.int .i64 (k0 + (n * 3 : Nat))) ∧ w' = w := by
  go_enter Try.func96, Try.ntmps96
  go_wp2
  go_loop [1, 5] (fun q i => ∃ k : Nat, k ≤ n ∧ i = .int .i64 k ∧ q = .int .i64 (k0 + (k * 3 : Nat))) (fun _ i => n - (intOf i).toNat)
  case atStart => exact ⟨0, by omega, rfl, by simp⟩
  case round =>
    obtain ⟨k, hk, rfl, rfl⟩ := hrel
    by_cases hlt : k < n
    · obtain ⟨b1, o1, rfl, g1'⟩ := h1.int (by rw [seq_len]; omega)
      have g1 := g1' (k * 3) (by rw [seq_len]; omega)
      have g2 := g1' (k * 3 + 1) (by rw [seq_len]; omega)
      have g3 := g1' (k * 3 + 2) (by rw [seq_len]; omega)
      rw [seq_get k0 (n * 3) (k * 3) (by omega), show k0 + ((k * 3 : Nat) : Int) = k0 + (k : Int) * 3 from by omega] at g1
      rw [seq_get k0 (n * 3) (k * 3 + 1) (by omega), show k0 + ((k * 3 + 1 : Nat) : Int) = k0 + (k : Int) * 3 + 1 from by omega, ← Nat.add_assoc] at g2
      rw [seq_get k0 (n * 3) (k * 3 + 2) (by omega), show k0 + ((k * 3 + 2 : Nat) : Int) = k0 + (k : Int) * 3 + 1 + 1 from by omega, ← Nat.add_assoc] at g3
      clear g1'
      go_wp2
      go_round
      case rel => exact ⟨k + 1, by omega, by go_num, by go_num⟩
      case measure => simp [intOf]; omega
    · have hkn : k = n := by omega
      subst hkn
      go_wp2
      go_ret
      exact ⟨rfl, rfl⟩

/-! A slice of slices: marked row by row. -/
/-- How many cells. -/
def flen : List (List Value) → Nat
  | [] => 0
  | r :: rs => r.length + flen rs
def markRows : Int → List (List Value) → List (List Value)
  | _, [] => []
  | k, r :: rs => ints (seq k r.length) :: markRows (k + r.length) rs
theorem flen_append : ∀ (xs ys : List (List Value)), flen (xs ++ ys) = flen xs + flen ys
  | [], ys => by simp [flen]
  | x :: xs, ys => by simp [flen, flen_append xs ys]; omega
theorem flen_snoc (xs : List (List Value)) (r : List Value) : flen (xs ++ [r]) = flen xs + r.length := by rw [flen_append]; simp [flen]
theorem markRows_len : ∀ (k : Int) (xs : List (List Value)), (markRows k xs).length = xs.length
  | _, [] => rfl
  | k, x :: xs => by simp [markRows, markRows_len (k + x.length) xs]
theorem markRows_snoc : ∀ (k : Int) (xs : List (List Value)) (r : List Value), markRows k (xs ++ [r]) = markRows k xs ++ [ints (seq (k + flen xs) r.length)]
  | k, [], r => by simp [markRows, flen]
  | k, x :: xs, r => by
    simp only [List.cons_append, markRows, flen]
    rw [markRows_snoc (k + x.length) xs r, show k + (x.length : Int) + (flen xs : Nat) = k + ((x.length + flen xs : Nat) : Int) from by omega]
theorem take_succ_row (xs : List (List Value)) (k : Nat) (hk : k < xs.length) : xs.take (k + 1) = xs.take k ++ [xs.getD k []] := by
  rw [List.take_add_one, List.getElem?_eq_getElem hk]; simp [List.getD, hk]
theorem flen_take_le (xs : List (List Value)) (k : Nat) : flen (xs.take k) ≤ flen xs := by
  have e : xs = xs.take k ++ xs.drop k := (List.take_append_drop k xs).symm
  have := flen_append (xs.take k) (xs.drop k)
  rw [← e] at this; omega

/-- Two slices of the list that own one block are one. -/
theorem same_block : ∀ {vs : List Value} {i j k : Nat}, (fpV vs).Nodup → i < vs.length → j < vs.length → (vs.getD i undef).ownBlock = some k → (vs.getD j undef).ownBlock = some k → i = j
  | [], _, _, _, _, h, _, _, _ => by simp at h
  | v :: vs, 0, 0, _, _, _, _, _, _ => rfl
  | v :: vs, 0, j + 1, k, hn, _, hj, h1, h2 => by
    exfalso
    simp only [List.getD_cons_zero, List.getD_cons_succ] at h1 h2
    have hm : k ∈ fpV vs := mem_fpV (by simpa using hj) h2
    unfold fpV at hn
    rw [List.filterMap_cons, h1] at hn
    simp only [List.nodup_cons] at hn
    exact hn.1 hm
  | v :: vs, i + 1, 0, k, hn, hi, _, h1, h2 => by
    exfalso
    simp only [List.getD_cons_zero, List.getD_cons_succ] at h1 h2
    have hm : k ∈ fpV vs := mem_fpV (by simpa using hi) h1
    unfold fpV at hn
    rw [List.filterMap_cons, h2] at hn
    simp only [List.nodup_cons] at hn
    exact hn.1 hm
  | v :: vs, i + 1, j + 1, k, hn, hi, hj, h1, h2 => by
    simp only [List.getD_cons_succ] at h1 h2
    have hn' : (fpV vs).Nodup := by
      unfold fpV at hn ⊢
      rw [List.filterMap_cons] at hn
      split at hn
      · exact hn
      · simp only [List.nodup_cons] at hn; exact hn.2
    rw [same_block hn' (by simpa using hi) (by simpa using hj) h1 h2]

/-- One row is turned. -/
theorem OwnT.update {w w' : World} {a : Option Addr} {n c : Nat} {vs : List Value} {rows : List (List Value)} (h : OwnT w a n c vs rows) (hnd : (fpT a vs).Nodup) {i : Nat} (hi : i < n) {a' : Option Addr} {m c' : Nat} (hv : vs.getD i undef = .slice a' m c')
    {row : List Value} (ho : w'.ownsRow 0 44 3 (.slice a' m c') m row) (hg : w.grownBy w' (rowOf a')) : OwnT w' a n c vs (rows.set i row) := by
  rw [fpT_eq, List.nodup_append] at hnd
  obtain ⟨_, hn2, hn3⟩ := hnd
  have hvl := h.vlen
  refine ⟨owns_keep h.out fun k hk hl => hg.block k hl (fun e => ?_), by simp [h.len], fun j hj => ?_⟩
  · rw [ownBlock_slice] at hk
    refine hn3 k (by simp [hk]) k (mem_fpV (i := i) (by omega) ?_) rfl
    rw [hv, ownBlock_slice]; exact e.symm
  · by_cases e : i = j
    · subst e
      refine ⟨a', m, c', hv, ?_⟩
      have : (rows.set i row).getD i [] = row := by simp [List.getD, h.len, hi]
      rw [this]; exact ho
    · obtain ⟨a2, m2, c2, hv2, ho2⟩ := h.inn j hj
      refine ⟨a2, m2, c2, hv2, ?_⟩
      have : (rows.set i row).getD j [] = rows.getD j [] := by simp [List.getD, e]
      rw [this]
      refine owns_keep ho2 fun k hk hl => hg.block k hl (fun e' => ?_)
      refine e (same_block (k := k) hn2 (by omega) (by omega) ?_ ?_ : i = j)
      · rw [hv, ownBlock_slice]; exact e'.symm
      · rw [hv2]; exact hk

set_option maxHeartbeats 1000000 in
theorem markOpSS_any (n c : Nat) (a : Option Addr) (vs : List Value) (rows : List (List Value)) (k0 : Int) (w : World) (hn : n ≤ 1048576) (hk0 : 0 ≤ k0) (hk1 : k0 + flen rows ≤ 1099511627776) (hin : ∀ i, (rows.getD i []).length ≤ 3145728)
    (h1 : OwnT w a n c vs rows) (hnd : (fpT a vs).Nodup) :
    Calls Try.prog 59 #[.slice a n c, .int .i64 k0] w fun e w' => e = .returned (.int .i64 (k0 + flen rows)) ∧ OwnT w' a n c vs (markRows k0 rows) ∧ Touch (fpV vs) w w' := by
  have HL := Lib.hid h1.len
  have HV := Lib.hid h1.vlen
  have HI := Lib.hid hin
  have HND := Lib.hid hnd
  clear hin hnd
  go_enter Try.func59, Try.ntmps59
  go_wp2
  go_loopw [1, 5] (fun q i wr => ∃ (k f : Nat), k ≤ n ∧ i = .int .i64 k ∧ Hid (f = flen (rows.take k)) ∧ q = .int .i64 (k0 + f) ∧ OwnT wr a n c vs (markRows k0 (rows.take k) ++ rows.drop k) ∧ Touch (fpV vs) w wr) (fun _ i _ => n - (intOf i).toNat)
  case atStart => exact ⟨0, 0, by omega, rfl, Lib.hid rfl, by simp, by simpa [markRows] using h1, Touch.refl _ _⟩
  case round =>
    obtain ⟨k, f, hk, rfl, hf, rfl, hown, ht⟩ := hrel
    by_cases hlt : k < n
    · obtain ⟨g, rfl, _, _⟩ := owns_at hown.out (by omega)
      obtain ⟨a', m, c', hv, ho⟩ := hown.inn k hlt
      have hcell : wr.cell? ⟨g, k, none⟩ = some (.slice a' m c') := by
        rw [hown.out.cellAt k (by omega), ← hv]
        have := HV.out
        simp [List.getD, show k < vs.length by omega]
      have hrow : (markRows k0 (rows.take k) ++ rows.drop k).getD k [] = rows.getD k [] := by
        have hl := HL.out
        have hm : (markRows k0 (rows.take k)).length = k := by rw [markRows_len]; simp; omega
        simp only [List.getD_eq_getElem?_getD]
        rw [List.getElem?_append_right (by omega), hm]
        simp
      rw [hrow] at ho
      obtain ⟨r, hr⟩ : ∃ r, r = rows.getD k [] := ⟨_, rfl⟩
      rw [← hr] at ho
      have HR := Lib.hid hr
      have HO := Lib.hid hown
      have HVk := Lib.hid hv
      have hfle := flen_take_le rows (k + 1)
      rw [take_succ_row rows k (by have := HL.out; omega), flen_snoc, ← hr, ← hf.out] at hfle
      have hmle : m ≤ 1048576 := by
        have := HI.out k
        rw [← hr] at this
        have := ho.1; omega
      clear hown hv hrow hr
      go_wp2_with fail
      refine (markOpS_any 0 m c' a' r _ _ (by omega) (by omega) (by omega) ho).mono ?_
      rintro e w2 ⟨rfl, ho2, hg2⟩
      have hup := HO.out.update HND.out hlt HVk.out ho2 hg2
      have HUP := Lib.hid hup
      have HG := Lib.hid hg2
      clear ho ho2 hg2 hup
      go_wp2
      go_roundw
      case rel =>
        have hl := HL.out
        refine ⟨k + 1, f + r.length, by omega, by go_num, Lib.hid ?_, by go_num, ?_, ht.trans (Touch.of_grown HG.out (fun q hq => mem_fpV (i := k) (by have := HV.out; omega) (by rw [HVk.out, ownBlock_slice]; exact hq)))⟩
        · rw [take_succ_row rows k (by omega), flen_snoc, ← HR.out, ← hf.out]
        · have e : (markRows k0 (rows.take k) ++ rows.drop k).set k (ints (seq (k0 + f) r.length)) = markRows k0 (rows.take (k + 1)) ++ rows.drop (k + 1) := by
            have hm : (markRows k0 (rows.take k)).length = k := by rw [markRows_len]; simp; omega
            rw [take_succ_row rows k (by omega), markRows_snoc, List.set_append, if_neg (by omega), hm, Nat.sub_self, List.drop_eq_getElem_cons (show k < rows.length by omega), List.set_cons_zero, ← hf.out, ← HR.out]
            simp
          rw [← e]; exact HUP.out
      case measure => simp [intOf]; omega
    · have hkn : k = n := by omega
      subst hkn
      go_wp2
      go_ret
      have hl := HL.out
      have e1 : rows.take k = rows := List.take_of_length_le (by omega)
      have e2 : rows.drop k = [] := List.drop_of_length_le (by omega)
      rw [e1, e2, List.append_nil] at hown
      refine ⟨ret_int ?_, hown, ht⟩
      rw [hf.out, e1]

theorem markRows_get : ∀ (rows : List (List Value)) (k : Int) (i : Nat), i < rows.length → (markRows k rows).getD i [] = ints (seq (k + flen (rows.take i)) (rows.getD i []).length)
  | [], _, _, h => by simp at h
  | r :: rs, k, 0, _ => by simp [markRows, flen]
  | r :: rs, k, i + 1, h => by
    simp only [markRows, List.getD_cons_succ, List.take_succ_cons, flen]
    rw [markRows_get rs (k + r.length) i (by simpa using h), show k + (r.length : Int) + (flen (rs.take i) : Nat) = k + ((r.length + flen (rs.take i) : Nat) : Int) from by omega]

set_option maxHeartbeats 1000000 in
theorem heldOpSS_yes (n c : Nat) (a : Option Addr) (vs : List Value) (rows : List (List Value)) (k0 : Int) (w : World) (hn : n ≤ 1048576) (hk0 : 0 ≤ k0) (hk1 : k0 + flen rows ≤ 1099511627776) (hin : ∀ i, (rows.getD i []).length ≤ 3145728)
    (h1 : OwnT w a n c vs (markRows k0 rows)) :
    Calls Try.prog 61 #[.slice a n c, .int .i64 k0] w fun e w' => e = .returned (.int .i64 (k0 + flen rows)) ∧ w' = w := by
  have HL : Hid (rows.length = n) := Lib.hid (by have := h1.len; rwa [markRows_len] at this)
  have HV := Lib.hid h1.vlen
  have HI := Lib.hid hin
  clear hin
  go_enter Try.func61, Try.ntmps61
  go_wp2
  go_loop [1, 5] (fun q i => ∃ (k f : Nat), k ≤ n ∧ i = .int .i64 k ∧ Hid (f = flen (rows.take k)) ∧ q = .int .i64 (k0 + f)) (fun _ i => n - (intOf i).toNat)
  case atStart => exact ⟨0, 0, by omega, rfl, Lib.hid rfl, by simp⟩
  case round =>
    obtain ⟨k, f, hk, rfl, hf, rfl⟩ := hrel
    by_cases hlt : k < n
    · obtain ⟨g, rfl, _, _⟩ := owns_at h1.out (by omega)
      obtain ⟨a', m, c', hv, ho⟩ := h1.inn k hlt
      have hcell : w.cell? ⟨g, k, none⟩ = some (.slice a' m c') := by
        rw [h1.out.cellAt k (by omega), ← hv]
        have := HV.out
        simp [List.getD, show k < vs.length by omega]
      rw [markRows_get rows k0 k (by have := HL.out; omega), ← hf.out] at ho
      have hlen := ho.1
      simp only [List.length_map, seq_len] at hlen
      have hfle := flen_take_le rows (k + 1)
      rw [take_succ_row rows k (by have := HL.out; omega), flen_snoc, hlen, ← hf.out] at hfle
      have hmle : m ≤ 1048576 := by
        have := HI.out k
        omega
      rw [hlen] at ho
      have hr := Rd.of_owns ho
      have HLen := Lib.hid hlen
      clear hv ho hlen
      go_wp2_with fail
      refine (heldOpS_yes a' c' m (k0 + f) _ (by omega) (by omega) (by omega) hr).mono ?_
      rintro e w2 ⟨rfl, rfl⟩
      have hneg : ¬ k0 + (f : Int) + ((m * 3 : Nat) : Int) < 0 := by omega
      go_wp2
      go_round
      case rel =>
        refine ⟨k + 1, f + m * 3, by omega, by go_num, Lib.hid ?_, by go_num⟩
        rw [take_succ_row rows k (by have := HL.out; omega), flen_snoc, HLen.out, ← hf.out]
      case measure => simp [intOf]; omega
    · have hkn : k = n := by omega
      subst hkn
      go_wp2
      go_ret
      refine ⟨ret_int ?_, rfl⟩
      rw [hf.out, List.take_of_length_le (by have := HL.out; omega)]

end Go.Proofs.Ytnobkdkfhgjeeab
