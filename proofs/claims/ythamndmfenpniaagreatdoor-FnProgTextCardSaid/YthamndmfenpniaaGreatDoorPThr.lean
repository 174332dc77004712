/- The program's parseThread. -/
import Derived.Test.YthamndmfenpniaaGreatDoorPOp
import Derived.Test.YthamndmfenpniaaGreatDoorRdImpl
namespace Go.Proofs.YthamndmfenpniaaGreatDoor
open Go.RowKit

theorem opsI_append : ∀ (a b : List ByteArray), opsI (a ++ b) = (opsI a).bind fun x => (opsI b).map (x ++ ·)
  | [], b => by
    show opsI b = (opsI b).map ([] ++ ·)
    cases opsI b <;> simp
  | x :: a, b => by
    show (match opI (pieceB x spB) with | none => none | some o => (opsI (a ++ b)).map (o :: ·)) = (match opI (pieceB x spB) with | none => none | some o => (opsI a).map (o :: ·)).bind fun y => (opsI b).map (y ++ ·)
    cases opI (pieceB x spB) with
    | none => rfl
    | some o =>
      show (opsI (a ++ b)).map (o :: ·) = ((opsI a).map (o :: ·)).bind fun y => (opsI b).map (y ++ ·)
      rw [opsI_append a b]
      cases opsI a with
      | none => rfl
      | some l => cases opsI b <;> simp
theorem take_next {parts : List ByteArray} {i : Nat} (h : i < parts.length) : parts.take (i + 1) = parts.take i ++ [parts.getD i noB] := by
  rw [List.take_add_one, List.getD_eq_getElem?_getD, List.getElem?_eq_getElem h]
  rfl
theorem opsI_next {parts : List ByteArray} {i : Nat} {l : List OpD} (h : i < parts.length) (hl : opsI (parts.take i) = some l) : opsI (parts.take (i + 1)) = (opI (pieceB (parts.getD i noB) spB)).map fun o => l ++ [o] := by
  rw [take_next h, opsI_append, hl]
  show (opsI [parts.getD i noB]).map (l ++ ·) = _
  show (match opI (pieceB (parts.getD i noB) spB) with | none => none | some o => (opsI []).map (o :: ·)).map (l ++ ·) = _
  cases opI (pieceB (parts.getD i noB) spB) <;> rfl
theorem opsI_dead {parts : List ByteArray} {i : Nat} (hl : opsI (parts.take i) = none) : opsI parts = none := by
  have := opsI_append (parts.take i) (parts.drop i)
  rw [List.take_append_drop, hl] at this
  exact this
theorem opsI_len : ∀ {parts : List ByteArray} {l : List OpD}, opsI parts = some l → l.length = parts.length
  | [], l, h => by
    have h' : some [] = some l := h
    obtain rfl := Option.some.inj h'
    rfl
  | x :: r, l, h => by
    have h' : (match opI (pieceB x spB) with | none => none | some o => (opsI r).map (o :: ·)) = some l := h
    cases ho : opI (pieceB x spB) with
    | none => rw [ho] at h'; cases h'
    | some o =>
      rw [ho] at h'
      cases hr : opsI r with
      | none => rw [hr] at h'; cases h'
      | some m =>
        rw [hr] at h'
        obtain rfl : o :: m = l := by simpa using h'
        rw [List.length_cons, List.length_cons, opsI_len hr]
theorem prefix_thread (s : ByteArray) : Lib.hasPrefix s.data.toList threadSpB.data.toList = decide (7 ≤ s.size ∧ s.extract 0 7 = threadSpB) := by
  rw [← Lib.hasPrefix_raw]
  have e : threadSpB.size = 7 := rfl
  rw [e]
  by_cases he : s.extract 0 7 = threadSpB
  · rw [he]; simp
  · have h2 : ((s.extract 0 7).toList == threadSpB.toList) = false := by simpa using fun h => he (toList_inj h)
    rw [h2]; simp [he]

set_option maxRecDepth 100000 in
set_option maxHeartbeats 8000000 in
theorem implParseThread_any (s : ByteArray) (w : World) (hL : Laid2 w) (hs : s.size ≤ 16777216) :
    Calls Tryz.prog 23 #[.string s] w fun e w' => ∃ (a : Option Addr) (n c : Nat), e = .returned (.tuple #[.slice a n c, .bool (thrI s).isSome]) ∧ (∀ l, thrI s = some l → n = l.length ∧ w'.ownsRow w.heap.size 63 3 (.slice a n c) n (opsV l)) ∧ Below w.heap.size w w' := by
  have HL := Lib.hid hL
  clear hL
  go_enter Tryz.func23, Tryz.ntmps23
  by_cases hT : s = threadB
  · have HR : Hid (thrI s = some []) := Lib.hid (by unfold thrI; rw [if_pos hT])
    have q0 : (s.toList == [116, 104, 114, 101, 97, 100]) = true := by rw [hT, ByteArray.toList_eq]; rfl
    clear hT
    go_wp2
    refine bodyPost_ret (v := .tuple #[.slice none 0 0, .bool true]) (by simp [results, Tryz.results23, go_sem]) rfl ⟨none, 0, 0, by rw [HR.out]; rfl, fun l hl => ?_, Below.refl _ _⟩
    rw [HR.out] at hl
    obtain rfl : [] = l := by simpa using hl
    exact ⟨rfl, ⟨rfl, .inl ⟨rfl, rfl⟩⟩⟩
  · have q0 : (s.toList == [116, 104, 114, 101, 97, 100]) = false := by
      have : ¬ s.toList = [116, 104, 114, 101, 97, 100] := fun h => hT (toList_inj (by rw [h, ByteArray.toList_eq]; rfl))
      simpa using this
    have HTI : Hid (thrI s = if 7 ≤ s.size ∧ s.extract 0 7 = threadSpB then opsI (pieceB (s.extract 7 s.size) commaSpB) else none) := Lib.hid (by unfold thrI; rw [if_neg hT])
    clear hT
    go_wp2_with fail
    refine (Tryz.strings_CutPrefix s ⟨#[116, 104, 114, 101, 97, 100, 32]⟩ w).mono ?_
    rintro e w1 ⟨rfl, hw⟩
    have hw' := hw.symm
    subst hw'
    have hpf : Lib.hasPrefix s.data.toList (⟨#[116, 104, 114, 101, 97, 100, 32]⟩ : ByteArray).data.toList = decide (7 ≤ s.size ∧ s.extract 0 7 = threadSpB) := prefix_thread s
    have htr : (⟨(Lib.trimPrefix s.data.toList (⟨#[116, 104, 114, 101, 97, 100, 32]⟩ : ByteArray).data.toList).toArray⟩ : ByteArray) = if 7 ≤ s.size ∧ s.extract 0 7 = threadSpB then s.extract 7 s.size else s := by
      by_cases hc : 7 ≤ s.size ∧ s.extract 0 7 = threadSpB
      · rw [if_pos hc]
        exact Lib.trimPrefix_hit s threadSpB hc.1 (by show ((s.extract 0 7).toList == threadSpB.toList) = true; rw [hc.2]; simp)
      · rw [if_neg hc]
        exact Lib.trimPrefix_miss s threadSpB (by rw [Lib.hasPrefix_raw, prefix_thread]; exact decide_eq_false hc)
    rw [hpf, htr]
    by_cases hc : 7 ≤ s.size ∧ s.extract 0 7 = threadSpB
    · rw [decide_eq_true hc, if_pos hc]
      have HTI2 : Hid (thrI s = opsI (pieceB (s.extract 7 s.size) commaSpB)) := Lib.hid (by rw [HTI.out, if_pos hc])
      obtain ⟨R, hR⟩ : ∃ R, R = s.extract 7 s.size := ⟨_, rfl⟩
      have hRs : R.size ≤ 16777216 := by rw [hR, ByteArray.size_extract]; omega
      rw [← hR] at HTI2 ⊢
      obtain ⟨m, hm⟩ := HL.out.len
      clear hR hc HTI hpf htr
      go_wp2_with fail
      refine (Tryz.strings_Split R ⟨#[44, 32]⟩ m _ (by omega) hm (by decide)).mono ?_
      rintro e w1 ⟨rfl, hw1⟩
      obtain ⟨parts, hpt⟩ : ∃ parts, parts = pieceB R commaSpB := ⟨_, rfl⟩
      have hlen : Lib.countB R ⟨#[44, 32]⟩ + 1 = parts.length := by rw [hpt]; exact (piece_len (s := R) (sep := commaSpB) (by decide)).symm
      have hw2 : w1 = w.alloc (.cells (parts.map Value.string).toArray 9) := by rw [hpt]; exact hw1
      have kW : Blk w1 w.heap.size (parts.map Value.string).toArray 9 := by rw [hw2]; exact Blk.new _ _ _
      have hb1 : Below w.heap.size w w1 := by rw [hw2]; exact (Below.refl _ _).alloc (Nat.le_refl _) _
      have hpos : 1 ≤ parts.length := by omega
      have hmax : parts.length ≤ 16777217 := by have := piece_count (s := R) (sep := commaSpB) (by decide); rw [← hpt] at this; omega
      have HSZ : Hid (∀ x ∈ parts, x.size ≤ 16777216) := Lib.hid (fun x hx => by rw [hpt] at hx; have := piece_size hx; omega)
      rw [hlen]
      rw [← hpt] at HTI2
      have HRD : Hid (Rd w1 (some ⟨w.heap.size, 0, none⟩) (strs parts)) := Lib.hid (by have := Rd.of_blk kW; simpa using this)
      have HL1 := Lib.hid (HL.out.below hb1)
      have HB1 := Lib.hid hb1
      obtain ⟨P, hP⟩ : ∃ P, P = w.heap.size := ⟨_, rfl⟩
      rw [← hP] at kW HRD ⊢
      have hPl := kW.lt
      have HPW := Lib.hid hP
      clear hw1 hw2 hb1 hm hlen hpt kW hP
      obtain ⟨np, hnp⟩ : ∃ np, np = parts.length := ⟨_, rfl⟩
      rw [← hnp] at hpos hmax ⊢
      have HNP := Lib.hid hnp
      clear hnp
      go_wp2
      go_loopw [6, 23] (fun vn vi wr => ∃ (i : Nat) (l : List OpD) (an : Option Addr) (cn : Nat), i ≤ np ∧ vi = .int .i64 i ∧ vn = .slice an i cn ∧ Hid (opsI (parts.take i) = some l) ∧ wr.ownsRow w1.heap.size 63 3 (.slice an i cn) i (opsV l) ∧ Hid (Below w1.heap.size w1 wr)) (fun _ vi _ => np - (intOf vi).toNat)
      case atStart => exact ⟨0, [], _, _, by omega, rfl, rfl, Lib.hid rfl, ⟨rfl, .inl ⟨rfl, rfl⟩⟩, Lib.hid (Below.refl _ _)⟩
      case round =>
        obtain ⟨i, l, an, cn, hinp, rfl, rfl, hnum, hown, hbh⟩ := hrel
        have hB1 := HB1.out.trans (hbh.out.mono HB1.out.size)
        have hS := hbh.out.size
        by_cases hlt : i < np
        · have i1 : (i : Int) < (np : Int) := by omega
          have i0 : (0 : Int) ≤ (i : Int) := by omega
          obtain ⟨b, o, eb, hc⟩ := (HRD.out.below hbh.out).at (by rw [List.length_map, ← HNP.out]; omega)
          obtain ⟨rfl, rfl⟩ : P = b ∧ 0 = o := by simpa using eb
          have g1 := hc i (by rw [List.length_map, ← HNP.out]; exact hlt)
          obtain ⟨x, hx⟩ : ∃ x, x = parts.getD i noB := ⟨_, rfl⟩
          have ex : (strs parts).getD i undef = .string x := by rw [hx]; simp [strs, List.getD, show i < parts.length by rw [← HNP.out]; exact hlt]
          have hilt : i < parts.length := by rw [← HNP.out]; exact hlt
          have hxs : x.size ≤ 16777216 := HSZ.out x (by
            rw [hx, List.getD_eq_getElem?_getD, List.getElem?_eq_getElem hilt]
            exact List.getElem_mem hilt)
          have hst : opsI (parts.take (i + 1)) = (opI (pieceB x spB)).map fun o => l ++ [o] := by rw [hx]; exact opsI_next hilt hnum.out
          rw [ex, Nat.zero_add] at g1
          clear hc hx ex hilt eb
          cases hpo : opI (pieceB x spB) with
          | none =>
            have HPN := Lib.hid hpo
            have HR : Hid (thrI s = none) := Lib.hid (by rw [HTI2.out]; exact opsI_dead (i := i + 1) (by rw [hst, hpo]; rfl))
            clear hst hpo
            go_wp2_with fail
            refine (implParseOp_any x _ (HL1.out.below hbh.out) hxs).mono ?_
            rintro e w3 ⟨rfl, hb3⟩
            rw [HPN.out]
            simp only [Option.getD_none, Option.isSome_none]
            have hB3 := hB1.trans (hb3.mono hB1.size)
            have HB3 := Lib.hid hB3
            clear hb3 hB3
            go_wp2
            refine bodyPost_ret (v := .tuple #[.slice none 0 0, .bool false]) (by simp [results, Tryz.results23, go_sem]) rfl ⟨none, 0, 0, by rw [HR.out]; rfl, (fun l hl => by rw [HR.out] at hl; cases hl), ?_⟩
            exact HB3.out.alloc HB3.out.size _
          | some o =>
            have ONE : Hid (∀ u ∈ opv o, u.oneCell' = true) := Lib.hid (by intro u hu; simp only [opv, List.mem_cons, List.not_mem_nil, or_false] at hu; rcases hu with rfl | rfl | rfl <;> rfl)
            have HPN := Lib.hid hpo
            have HST : Hid (opsI (parts.take (i + 1)) = some (l ++ [o])) := Lib.hid (by rw [hst, hpo]; rfl)
            clear hst hpo
            go_wp2_with fail
            refine (implParseOp_any x _ (HL1.out.below hbh.out) hxs).mono ?_
            rintro e w3 ⟨rfl, hb3⟩
            rw [HPN.out]
            simp only [Option.getD_some, Option.isSome_some]
            have hbk3 := hbh.out.trans (hb3.mono hS)
            have kA : Blk (w3.alloc (.cells #[.int .i64 o.kind, .int .i64 o.on, .int .i64 o.arg] 63)) w3.heap.size #[.int .i64 o.kind, .int .i64 o.on, .int .i64 o.arg] 63 := Blk.new _ _ _
            have z0 := kA.cell 0 rfl
            have z1 := kA.cell 1 rfl
            have z2 := kA.cell 2 rfl
            have hown3 := (owns_below hown hb3).alloc (.cells #[.int .i64 o.kind, .int .i64 o.on, .int .i64 o.arg] 63)
            have hbk4 := hbk3.alloc hbk3.size (.cells #[.int .i64 o.kind, .int .i64 o.on, .int .i64 o.arg] 63)
            have HBK4 := Lib.hid hbk4
            have HOWN := Lib.hid hown3
            have hS4 := hbk4.size
            clear hb3 hbk3 kA hown hbk4
            go_wp2_with (at_builtin; refine wpList_append_sl (m := 1) (cm := 1) (news := opv o) rfl (.tmp 34) (.tmp 36) 46 rfl Tryz.underlying46 info_op rfl (by decide) rfl hown3 (by show Value.slice (some ⟨w3.heap.size + 1, 0, none⟩) 1 1 = _; simp) (by rw [opv_len]) rfl ONE.out (by omega) (by decide) hS4 ?_; intro a5 c5 w5 hown5 hgr5; clear hown3)
            go_roundw
            case rel =>
              refine ⟨i + 1, l ++ [o], a5, c5, by omega, by go_num, rfl, HST, ?_, Lib.hid (HBK4.out.trans (below_of_grown hgr5 hS4 (fun q hq => (owns_row HOWN.out q hq).1)))⟩
              simpa [opsV] using hown5
            case measure => simp [intOf]; omega
        · obtain rfl : i = np := by omega
          have HR : Hid (thrI s = some l) := Lib.hid (by
            rw [HTI2.out]
            have := hnum.out
            rw [List.take_of_length_le (by rw [← HNP.out]; exact Nat.le_refl _)] at this
            exact this)
          have HLL : Hid (l.length = i) := Lib.hid (by have := opsI_len hnum.out; rw [this, List.length_take, ← HNP.out]; exact Nat.min_self _)
          have hWW := HB1.out.size
          go_wp2
          refine bodyPost_ret (v := .tuple #[.slice an i cn, .bool true]) (by simp [results, Tryz.results23, go_sem]) rfl ⟨_, i, cn, by rw [HR.out]; rfl, fun m hm => ?_, hB1⟩
          rw [HR.out] at hm
          obtain rfl : l = m := by simpa using hm
          exact ⟨HLL.out.symm, owns_mono hown hWW⟩
    · rw [decide_eq_false hc, if_neg hc]
      have HR : Hid (thrI s = none) := Lib.hid (by rw [HTI.out, if_neg hc])
      clear hc hpf htr HTI
      go_wp2
      refine bodyPost_ret (v := .tuple #[.slice none 0 0, .bool false]) (by simp [results, Tryz.results23, go_sem]) rfl ⟨none, 0, 0, by rw [HR.out]; rfl, (fun l hl => by rw [HR.out] at hl; cases hl), Below.refl _ _⟩
end Go.Proofs.YthamndmfenpniaaGreatDoor
