/- The program's parseNumber, and what it needs of the package-level variables. -/
import Derived.Test.YthamndmfenpniaaGreatDoorFmtImpl
import Derived.Test.YthamndmfenpniaaGreatDoorNumImpl
namespace Go.Proofs.YthamndmfenpniaaGreatDoor
open Go.RowKit

/-- What the readers want of the variables: the table and the powers of ten, the search's bound, the two errors. -/
structure Laid2 (w : World) : Prop where
  laid : Laid w
  len : ∃ m, w.cell? ⟨1, 0, none⟩ = some (.int .i64 m)
  syn : ∃ ev, w.cell? ⟨2, 0, none⟩ = some ev ∧ (ev = .nilIface ∨ ∃ te pe, ev = .iface te pe)
  rng : ∃ ev, w.cell? ⟨3, 0, none⟩ = some ev ∧ (ev = .nilIface ∨ ∃ te pe, ev = .iface te pe)
theorem Laid2.below {w w' : World} (h : Laid2 w) (hb : Below w.heap.size w w') : Laid2 w' := by
  obtain ⟨h1, ⟨m, h2⟩, ⟨e1, h3, h4⟩, e2, h5, h6⟩ := h
  exact ⟨h1.below hb, ⟨m, keepc hb h2⟩, ⟨e1, keepc hb h3, h4⟩, e2, keepc hb h5, h6⟩

theorem implAtoi_any (s : ByteArray) (w : World) (hL : Laid2 w) (hs : s.size ≤ 4294967296) :
    Calls Tryz.prog 61 #[.string s] w fun e w' => ∃ n er, e = .returned (.tuple #[.int .i64 n, er]) ∧ Below w.heap.size w w' ∧ ((Lib.atoiAll (toL s) = .ok n ∧ er = .nilIface ∧ InI64 n) ∨ ((∀ m, Lib.atoiAll (toL s) ≠ .ok m) ∧ ∃ b, er = .iface 125 (.pointer (some ⟨b, 0, none⟩)))) := by
  cases h : Lib.atoiAll (toL s)
  · next v =>
    refine (Tryz.strconv_Atoi_ok s (by omega) v h w).mono ?_
    rintro e w' ⟨rfl, hw⟩
    refine ⟨v, _, rfl, ?_, .inl ⟨rfl, rfl, ?_⟩⟩
    · rcases hw with rfl | ⟨t, rfl⟩
      · exact Below.refl _ _
      · exact Lib.bytesWorld_below _ _ _
    · have := Lib.atoiAll_bounds h
      unfold InI64
      omega
  · obtain ⟨ev, h1, h2⟩ := hL.syn
    refine (Any.strconv_Atoi_syntax Tryz.laysC172 s (by omega) h ev w h1 h2).mono ?_
    rintro e w' ⟨b, rfl, -, -, hb⟩
    exact ⟨0, _, rfl, hb, .inr ⟨fun m => by simp, b, rfl⟩⟩
  · obtain ⟨ev, h1, h2⟩ := hL.rng
    refine (Any.strconv_Atoi_range Tryz.laysC172 s (by omega) h ev w h1 h2).mono ?_
    rintro e w' ⟨b, rfl, -, -, hb⟩
    exact ⟨_, _, rfl, hb, .inr ⟨fun m => by simp, b, rfl⟩⟩

theorem itoa_min : (⟨(Lib.itoa (-9223372036854775808)).toArray⟩ : ByteArray) = decI (-9223372036854775808) := by
  unfold decI
  rw [if_pos (by decide)]
  have e : (-9223372036854775808 : Int).natAbs = 9223372036854775808 := rfl
  unfold Lib.itoa
  rw [if_pos (by decide), e]
  simp [Lib.decDigits, minText]
theorem implItoa2_any (n : Int) (w : World) (hL : Laid w) (h : InI64 n) :
    Calls Tryz.prog 62 #[.int .i64 n] w fun e w' => e = .returned (.string (decI n)) ∧ Below w.heap.size w w' := by
  unfold InI64 at h
  by_cases hm : n = -9223372036854775808
  · subst hm
    refine (Tryz.strconv_Itoa _ (by omega) (by omega) w hL.2).mono ?_
    rintro e w' ⟨rfl, k, os, rfl⟩
    exact ⟨by rw [itoa_min], below_regrown _ _ _⟩
  · exact implItoa_any n w hL (by omega) (by omega)

set_option maxRecDepth 100000 in
set_option maxHeartbeats 4000000 in
theorem implParseNumber_any (s : ByteArray) (w : World) (hL : Laid2 w) (hs : s.size ≤ 4294967296) :
    Calls Tryz.prog 25 #[.string s] w fun e w' => e = .returned (.tuple #[.int .i64 ((numI s).getD 0), .bool (numI s).isSome]) ∧ Below w.heap.size w w' := by
  obtain ⟨D, hD⟩ : ∃ D : ByteArray, D = ⟨(Lib.trimPrefix (toL s) [45]).toArray⟩ := ⟨_, rfl⟩
  have hDs : D.size = (Lib.trimPrefix (toL s) [45]).length := by rw [hD]; rfl
  have HN : Hid (numI s = if D.size < 1 ∨ 17 < D.size then none else match Lib.atoiAll (toL s) with | .ok n => if decI n = s then some n else none | _ => none) := Lib.hid (by rw [hDs]; rfl)
  have HL := Lib.hid hL
  have HD := Lib.hid hD
  clear hL hD hDs
  go_enter Tryz.func25, Tryz.ntmps25
  go_wp2_with fail
  refine (Tryz.strings_TrimPrefix s _ w).mono ?_
  rintro e w1 ⟨rfl, hw⟩
  subst hw
  have HD2 : Hid ((⟨(Lib.trimPrefix s.data.toList (⟨#[45]⟩ : ByteArray).data.toList).toArray⟩ : ByteArray) = D) := Lib.hid HD.out.symm
  rw [HD2.out]
  clear HD2 HD
  by_cases hlen : D.size < 1 ∨ 17 < D.size
  · have HRR : Hid (numI s = none) := Lib.hid (by rw [HN.out, if_pos hlen])
    by_cases h1 : D.size < 1
    · go_wp2
      go_ret2
      exact ⟨by rw [HRR.out]; rfl, Below.refl _ _⟩
    · have h2 : 17 < D.size := by omega
      go_wp2
      go_ret2
      exact ⟨by rw [HRR.out]; rfl, Below.refl _ _⟩
  · have HR : Hid (numI s = match Lib.atoiAll (toL s) with | .ok n => if decI n = s then some n else none | _ => none) := Lib.hid (by rw [HN.out, if_neg hlen])
    have h1 : ¬ D.size < 1 := fun h => hlen (.inl h)
    have h2 : ¬ 17 < D.size := fun h => hlen (.inr h)
    clear hlen HN
    go_wp2_with fail
    refine (implAtoi_any s _ HL.out hs).mono ?_
    rintro e w2 ⟨n, er, rfl, hb, hcase⟩
    rcases hcase with ⟨ha, rfl, hn⟩ | ⟨ha, b, rfl⟩
    · have HA := Lib.hid ha
      have HB := Lib.hid hb
      have hI := hb.size
      clear ha hb
      go_wp2_with fail
      refine (implItoa2_any n _ (HL.out.below HB.out).laid hn).mono ?_
      rintro e w3 ⟨rfl, hb3⟩
      have HB3 := Lib.hid (HB.out.trans (hb3.mono HB.out.size))
      clear hb3
      by_cases hq : decI n = s
      · have q0 : ((decI n).toList == s.toList) = true := by rw [hq]; simp
        have hR : numI s = some n := by rw [HR.out, HA.out]; exact if_pos hq
        have HRR := Lib.hid hR
        clear hR hq
        go_wp2
        go_ret2
        exact ⟨by rw [HRR.out]; rfl, HB3.out⟩
      · have q1 : ¬ (decI n).toList = s.toList := fun h => hq (toList_inj h)
        have q0 : ((decI n).toList == s.toList) = false := by simpa using q1
        have hR : numI s = none := by rw [HR.out, HA.out]; exact if_neg hq
        have HRR := Lib.hid hR
        clear hR hq q1
        go_wp2
        go_ret2
        exact ⟨by rw [HRR.out]; rfl, HB3.out⟩
    · have HRR : Hid (numI s = none) := Lib.hid (by
        rw [HR.out]
        split
        · next m hm => exact absurd hm (ha m)
        · rfl)
      go_wp2
      go_ret2
      exact ⟨by rw [HRR.out]; rfl, hb⟩
end Go.Proofs.YthamndmfenpniaaGreatDoor
