/- The statements' own copies of a program: toOp, toOpS, toOpSS, toProg. -/
import Derived.Test.YtnobkdkfhgjeeabPgm
import Derived.StillTailTactics
namespace Go.Proofs.Ytnobkdkfhgjeeab
open Go.RowKit

/-- Rows of operations that are owned, one for each slice of 'vs'. -/
structure Inner (w : World) (vs : List Value) (rows : List (List Value)) : Prop where
  len : rows.length = vs.length
  inn : ∀ i, i < vs.length → ∃ a' m c', vs.getD i undef = .slice a' m c' ∧ w.ownsRow 0 44 3 (.slice a' m c') m (rows.getD i [])
def fpV (vs : List Value) : List Nat := vs.filterMap Value.ownBlock

theorem Inner.nil (w : World) : Inner w [] [] := ⟨rfl, by simp⟩
theorem mem_fpV {vs : List Value} {i k : Nat} (hi : i < vs.length) (hk : (vs.getD i undef).ownBlock = some k) : k ∈ fpV vs := by
  refine List.mem_filterMap.2 ⟨vs.getD i undef, ?_, hk⟩
  rw [List.getD_eq_getElem?_getD, List.getElem?_eq_getElem hi]; simp
theorem Inner.keep {w w' : World} {vs : List Value} {rows : List (List Value)} (h : Inner w vs rows) (hb : ∀ k ∈ fpV vs, k < w.heap.size → w'.heap[k]? = w.heap[k]?) : Inner w' vs rows := by
  refine ⟨h.len, fun i hi => ?_⟩
  obtain ⟨a', m, c', e, ho⟩ := h.inn i hi
  exact ⟨a', m, c', e, owns_keep ho fun k hk hl => hb k (mem_fpV hi (by rw [e]; exact hk)) hl⟩
theorem Inner.lt {w : World} {vs : List Value} {rows : List (List Value)} (h : Inner w vs rows) : ∀ k ∈ fpV vs, k < w.heap.size := by
  intro k hk
  obtain ⟨v, hv, hvk⟩ := List.mem_filterMap.1 hk
  obtain ⟨i, hi, e⟩ := List.mem_iff_getElem.1 hv
  obtain ⟨a', m, c', e', ho⟩ := h.inn i hi
  have : vs.getD i undef = v := by rw [List.getD_eq_getElem?_getD, List.getElem?_eq_getElem hi]; simp [e]
  rw [this] at e'
  rw [e'] at hvk
  exact (ho.lt k hvk).2
theorem Inner.below {w w' : World} {vs : List Value} {rows : List (List Value)} (h : Inner w vs rows) (hb : Below w.heap.size w w') : Inner w' vs rows := h.keep fun k hk _ => hb.block k (h.lt k hk)
theorem Inner.grown {w w' : World} {vs : List Value} {rows : List (List Value)} {row : Option Nat} (h : Inner w vs rows) (hg : w.grownBy w' row) (hr : ∀ k, row = some k → k ∉ fpV vs) : Inner w' vs rows :=
  h.keep fun k hk hl => hg.block k hl (fun e => hr k e.symm hk)
theorem Inner.snoc {w : World} {vs : List Value} {rows : List (List Value)} (h : Inner w vs rows) {a : Option Addr} {m c : Nat} {row : List Value} (ho : w.ownsRow 0 44 3 (.slice a m c) m row) : Inner w (vs ++ [.slice a m c]) (rows ++ [row]) := by
  refine ⟨by simp [h.len], fun i hi => ?_⟩
  by_cases hlt : i < vs.length
  · obtain ⟨a', m', c', e, ho'⟩ := h.inn i hlt
    refine ⟨a', m', c', ?_, ?_⟩
    · rw [← e]; simp [List.getD, List.getElem?_append_left hlt]
    · have : (rows ++ [row]).getD i [] = rows.getD i [] := by simp [List.getD, List.getElem?_append_left (show i < rows.length by rw [h.len]; exact hlt)]
      rw [this]; exact ho'
  · have hi' : i = vs.length := by simp at hi; omega
    subst hi'
    refine ⟨a, m, c, by simp, ?_⟩
    have : (rows ++ [row]).getD vs.length [] = row := by simp [List.getD, ← h.len]
    rw [this]; exact ho
theorem fpV_snoc (vs : List Value) (a : Option Addr) (m c : Nat) : fpV (vs ++ [.slice a m c]) = fpV vs ++ (rowOf a).toList := by
  unfold fpV
  rw [List.filterMap_append]
  congr 1
  cases a <;> rfl
theorem OwnT.inner {w : World} {a : Option Addr} {n c : Nat} {vs : List Value} {rows : List (List Value)} (h : OwnT w a n c vs rows) : Inner w vs rows :=
  ⟨by rw [h.len, h.vlen], fun i hi => h.inn i (by rw [← h.vlen]; exact hi)⟩
theorem OwnT.of_inner {w : World} {a : Option Addr} {n c : Nat} {vs : List Value} {rows : List (List Value)} (ho : w.ownsRow 0 34 1 (.slice a n c) n vs) (h : Inner w vs rows) : OwnT w a n c vs rows := by
  have hv : vs.length = n := by have := ho.1; omega
  exact ⟨ho, by rw [h.len, hv], fun i hi => h.inn i (by omega)⟩
theorem fpT_eq (a : Option Addr) (vs : List Value) : fpT a vs = (rowOf a).toList ++ fpV vs := rfl

theorem info_op : (Try.prog.info? 44).map (fun i => (i.zero, i.size, i.bytes)) = some (some (.agg #[.int .i64 0, .int .i64 0, .int .i64 0]), 3, 24) := by kernel_rfl
theorem info_ops : (Try.prog.info? 34).map (fun i => (i.zero, i.size, i.bytes)) = some (some (.slice none 0 0), 1, 24) := by kernel_rfl

set_option maxHeartbeats 400000 in
theorem toOp_any (x : OpD) (w : World) :
    Calls Try.prog 19 #[.agg #[.int .i64 x.kind, .int .i64 x.on, .int .i64 x.arg]] w fun e w' => e = .returned (.agg #[.int .i64 x.kind, .int .i64 x.on, .int .i64 x.arg]) ∧ Below w.heap.size w w' := by
  go_enter Try.func19, Try.ntmps19
  go_wp2
  refine bodyPost_ret (v := .agg #[.int .i64 x.kind, .int .i64 x.on, .int .i64 x.arg]) (by simp [results, Try.results19, go_sem]) rfl ⟨rfl, ?_⟩
  repeat (first | exact Below.refl _ _ | refine Below.alloc ?_ (by simp <;> omega) _ | refine Below.setCell ?_ (by simp <;> omega) _ | refine Below.drew ?_)

set_option maxHeartbeats 400000 in
theorem toOpS_any (n c : Nat) (a : Option Addr) (xs : List OpD) (w : World) (hl : xs.length = n) (hn : n ≤ 1099511627776) (h1 : Rd w a (opsV xs)) :
    Calls Try.prog 91 #[.slice a n c] w fun e w' => ∃ a' c', e = .returned (.slice a' n c') ∧
      w'.ownsRow w.heap.size 44 3 (.slice a' n c') n (opsV xs) ∧ Below w.heap.size w w' := by
  obtain ⟨i0, hi, hz0, hz1, hz2⟩ := info_parts info_op
  have HL := Lib.hid hl
  clear hl
  go_enter Try.func91, Try.ntmps91
  go_wp2_with (refine wpList_make_full _ rfl _ _ 34 rfl w.heap.size 44 i0 _ 3 Try.underlying34 hi hz0 hz1 _ _ _ _ n rfl rfl rfl rfl (by rw [hz2]; omega) (by unfold maxLen; omega) (Nat.le_refl _) ?_; intro w1 hown1 hgr1)
  rw [toList_made_const _ (.int .i64 0) _ (by decide) (by intro i hi; match i, hi with | 0, _ => rfl | 1, _ => rfl | 2, _ => rfl)] at hown1
  go_loopw [4] (fun i wr => ∃ k : Nat, k ≤ n ∧ i = .int .i64 k ∧ wr.ownsRow w.heap.size 44 3 (.slice (some ⟨w.heap.size, 0, none⟩) n n) n (opsV (xs.take k) ++ List.replicate ((n - k) * 3) (.int .i64 0)) ∧ Below w.heap.size w wr) (fun i _ => n - (intOf i).toNat)
  case atStart => exact ⟨0, by omega, rfl, by simpa using hown1, below_of_grown hgr1 (Nat.le_refl _) (by simp)⟩
  case round =>
    obtain ⟨k, hk, rfl, hown, hb⟩ := hrel
    by_cases hlt : k < n
    · obtain ⟨b1, o1, rfl, g1'⟩ := (h1.below hb).op (by have := HL.out; omega)
      obtain ⟨g1a, g1b, g1c⟩ := g1' k (by have := HL.out; omega)
      obtain ⟨x, hx⟩ : ∃ x, x = xs.getD k noOp := ⟨_, rfl⟩
      rw [← hx] at g1a g1b g1c
      have HX := Lib.hid hx
      clear g1' hx
      go_wp2_with fail
      refine (toOp_any x _).mono ?_
      rintro e w2 ⟨rfl, b2⟩
      replace hown := owns_below hown b2
      obtain ⟨old1, hold1⟩ : ∃ old, w2.cell? ⟨w.heap.size, k * 3, none⟩ = some old := by
        rw [hown.cellAt _ (by omega)]
        exact ⟨_, List.getElem?_eq_getElem (by rw [hown.1]; omega)⟩
      obtain ⟨old2, hold2⟩ : ∃ old, w2.cell? ⟨w.heap.size, k * 3 + 1, none⟩ = some old := by
        rw [hown.cellAt _ (by omega)]
        exact ⟨_, List.getElem?_eq_getElem (by rw [hown.1]; omega)⟩
      obtain ⟨old3, hold3⟩ : ∃ old, w2.cell? ⟨w.heap.size, k * 3 + 2, none⟩ = some old := by
        rw [hown.cellAt _ (by omega)]
        exact ⟨_, List.getElem?_eq_getElem (by rw [hown.1]; omega)⟩
      have hfz1 := hown.frozenAt (k * 3)
      have hfz2 := hown.frozenAt (k * 3 + 1)
      have hfz3 := hown.frozenAt (k * 3 + 2)
      have R1 := owns_store hown (k * 3) (.int .i64 x.kind) rfl
      have R2 := owns_store R1.1 (k * 3 + 1) (.int .i64 x.on) rfl
      have R3 := owns_store R2.1 (k * 3 + 2) (.int .i64 x.arg) rfl
      have HR1 := Lib.hid R1.2
      have HR2 := Lib.hid R2.2
      have HR := Lib.hid R3
      have hs1 := hb.size
      have hs2 := b2.size
      clear R1 R2 R3 hown
      go_wp2
      go_roundw
      case rel =>
        have hx := HX.out
        have hl := HL.out
        refine ⟨k + 1, by omega, by go_num, ?_, ?_⟩
        · have := HR.out.1
          have e := puts_flat opv_len noOp xs k (.int .i64 0) (by omega)
          rw [← hx, hl] at e
          rw [← e]; exact this
        · exact (hb.trans (b2.mono hb.size)).trans (((below_of_grown HR1.out (by omega) (by simp)).trans (below_of_grown HR2.out (by simp; omega) (by simp))).trans (below_of_grown HR.out.2 (by simp; omega) (by simp)))
      case measure => simp [intOf]; omega
    · have hkn : k = n := by omega
      subst hkn
      go_wp2
      go_ret
      exact ⟨_, _, rfl, by rw [List.take_of_length_le (by have := HL.out; omega)] at hown; simpa using hown, hb⟩

theorem rows_take_succ (ts : List (List OpD)) (k : Nat) (hk : k < ts.length) : (ts.take (k + 1)).map opsV = (ts.take k).map opsV ++ [opsV (ts.getD k [])] := by
  rw [List.take_add_one, List.getElem?_eq_getElem hk, List.map_append, List.getD_eq_getElem?_getD, List.getElem?_eq_getElem hk]
  simp only [Option.toList_some, List.map_cons, List.map_nil, Option.getD_some]

theorem nodup_snoc {l : List Nat} {o : Option Nat} (h : l.Nodup) (hk : ∀ k, o = some k → k ∉ l) : (l ++ o.toList).Nodup := by
  cases o with
  | none => simpa using h
  | some k =>
    rw [List.nodup_append]
    exact ⟨h, by simp, fun x hx y hy e => by
      simp only [Option.toList_some, List.mem_singleton] at hy
      exact hk k rfl (by rw [← hy, ← e]; exact hx)⟩

/-- A cell more of a row that was made of nil slices. -/
theorem nils_set (vs : List Value) (v : Value) (n : Nat) (h : vs.length < n) : (vs ++ List.replicate (n - vs.length) (Value.slice none 0 0)).set vs.length v = (vs ++ [v]) ++ List.replicate (n - (vs ++ [v]).length) (Value.slice none 0 0) := by
  rw [show n - vs.length = (n - (vs.length + 1)) + 1 from by omega, List.replicate_succ, List.set_append, if_neg (by omega)]
  simp

set_option maxHeartbeats 1000000 in
theorem toOpSS_any (n c : Nat) (a : Option Addr) (ts : List (List OpD)) (us : List Value) (w : World) (hl : ts.length = n) (hn : n ≤ 1099511627776) (hin : ∀ i, (ts.getD i []).length ≤ 1099511627776) (h1 : RdT w a ts us) :
    Calls Try.prog 53 #[.slice a n c] w fun e w' => ∃ a' c' vs, e = .returned (.slice a' n c') ∧
      OwnT w' a' n c' vs (ts.map opsV) ∧ (fpT a' vs).Nodup ∧ (∀ k ∈ fpT a' vs, w.heap.size ≤ k) ∧ Below w.heap.size w w' := by
  obtain ⟨i0, hi, hz0, hz1, hz2⟩ := info_parts info_ops
  have HL := Lib.hid hl
  have HI := Lib.hid hin
  clear hl hin
  go_enter Try.func53, Try.ntmps53
  go_wp2_with (refine wpList_make_full _ rfl _ _ 24 rfl w.heap.size 34 i0 _ 1 Try.underlying24 hi hz0 hz1 _ _ _ _ n rfl rfl rfl rfl (by rw [hz2]; omega) (by unfold maxLen; omega) (Nat.le_refl _) ?_; intro w1 hown1 hgr1)
  rw [toList_made_const _ (.slice none 0 0) _ (by decide) (by intro i hi; match i, hi with | 0, _ => rfl), Nat.mul_one] at hown1
  go_loopw [4] (fun i wr => ∃ (k : Nat) (vs : List Value), k ≤ n ∧ i = .int .i64 k ∧ Hid (vs.length = k) ∧ wr.ownsRow w.heap.size 34 1 (.slice (some ⟨w.heap.size, 0, none⟩) n n) n (vs ++ List.replicate (n - vs.length) (.slice none 0 0)) ∧
      Inner wr vs ((ts.take k).map opsV) ∧ Hid ((fpV vs).Nodup) ∧ Hid (∀ q ∈ fpV vs, w.heap.size < q) ∧ Below w.heap.size w wr) (fun i _ => n - (intOf i).toNat)
  case atStart => exact ⟨0, [], by omega, rfl, Lib.hid rfl, by simpa using hown1, by simpa using Inner.nil w1, Lib.hid (by simp [fpV]), Lib.hid (by simp [fpV]), below_of_grown hgr1 (Nat.le_refl _) (by simp)⟩
  case round =>
    obtain ⟨k, vs, hk, rfl, hvl, hown, hin, hnd, hlo, hb⟩ := hrel
    by_cases hlt : k < n
    · obtain ⟨b1, o1, rfl, g1'⟩ := (h1.below hb).thread (by have := HL.out; omega)
      obtain ⟨a1, c1, g1, hr1⟩ := g1' k (by have := HL.out; omega)
      obtain ⟨m, hm⟩ : ∃ m, m = (ts.getD k []).length := ⟨_, rfl⟩
      rw [← hm] at g1
      have hmm := HI.out k
      rw [← hm] at hmm
      have HM := Lib.hid hm
      clear g1' hm
      go_wp2_with fail
      refine (toOpS_any m c1 a1 (ts.getD k []) _ HM.out.symm hmm hr1).mono ?_
      rintro e w2 ⟨a2, c2, rfl, ho2, b2⟩
      have hs1 := hb.size
      have hs2 := b2.size
      have hwz := (owns_row hown w.heap.size rfl).2
      have hlt' := hin.lt
      have HLT := Lib.hid hlt'
      replace hown := owns_below hown b2
      replace hin := hin.below b2
      obtain ⟨old, hold⟩ : ∃ old, w2.cell? ⟨w.heap.size, k, none⟩ = some old := by
        rw [hown.cellAt k (by omega)]
        exact ⟨_, List.getElem?_eq_getElem (by rw [hown.1]; omega)⟩
      have hfz := hown.frozenAt k
      have hset := nils_set vs (.slice a2 m c2) n (by have := hvl.out; omega)
      rw [hvl.out] at hset hown
      have R := owns_store hown k (.slice a2 m c2) hset
      have hin3 := (hin.snoc (owns_mono ho2 (Nat.zero_le _))).grown R.2 (fun q hq => by
        cases hq
        rw [fpV_snoc, List.mem_append]
        rintro (hq | hq)
        · have := hlo.out _ hq; omega
        · have := owns_row ho2 _ (by simpa using hq); omega)
      have HR := Lib.hid R
      have HROW := Lib.hid (owns_row ho2)
      clear hlt' R hset hown ho2
      go_wp2
      go_roundw
      case rel =>
        refine ⟨k + 1, vs ++ [.slice a2 m c2], by omega, by go_num, Lib.hid (by simp [hvl.out]), HR.out.1, ?_, Lib.hid ?_, Lib.hid ?_, (hb.trans (b2.mono hb.size)).trans (below_of_grown HR.out.2 (by omega) (by simp))⟩
        · rw [rows_take_succ ts k (by have := HL.out; omega)]; exact hin3
        · rw [fpV_snoc]
          exact nodup_snoc hnd.out (fun q hq hm => by have := HLT.out _ hm; have := HROW.out q hq; omega)
        · intro q hq
          rw [fpV_snoc, List.mem_append] at hq
          rcases hq with hq | hq
          · exact hlo.out q hq
          · have := HROW.out q (by simpa using hq); omega
      case measure => simp [intOf]; omega
    · have hkn : k = n := by omega
      subst hkn
      go_wp2
      go_ret
      have hv := hvl.out
      rw [hv, Nat.sub_self, List.replicate_zero, List.append_nil] at hown
      rw [List.take_of_length_le (by have := HL.out; omega)] at hin
      refine ⟨_, _, vs, rfl, OwnT.of_inner (owns_mono hown (Nat.zero_le _)) hin, ?_, ?_, hb⟩
      · rw [fpT_eq, show (rowOf (some (⟨w.heap.size, 0, none⟩ : Addr))).toList = [w.heap.size] from rfl, List.singleton_append, List.nodup_cons]
        exact ⟨fun h => by have := hlo.out _ h; omega, hnd.out⟩
      · intro q hq
        rw [fpT_eq, List.mem_append] at hq
        rcases hq with hq | hq
        · simp [rowOf] at hq; omega
        · have := hlo.out q hq; omega

end Go.Proofs.Ytnobkdkfhgjeeab
