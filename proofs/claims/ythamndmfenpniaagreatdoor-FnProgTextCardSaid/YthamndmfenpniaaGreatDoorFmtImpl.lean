/- The program's texts of operations: the table of words, strconv.Itoa, FormatOp. -/
import Derived.Test.YthamndmfenpniaaGreatDoorBaseC
import Derived.Test.YthamndmfenpniaaGreatDoorShelf
namespace Go.Proofs.YthamndmfenpniaaGreatDoor
open Go.RowKit

theorem dd_more (n : Nat) (h : ¬ n < 10) : Lib.decDigits n = Lib.decDigits (n / 10) ++ [UInt8.ofNat (48 + n % 10)] := by
  conv => lhs; rw [Lib.decDigits]
  rw [dif_neg h]
theorem dd_last (n : Nat) (h : n < 10) : Lib.decDigits n = [UInt8.ofNat (48 + n)] := by
  rw [Lib.decDigits, dif_pos h]
theorem decNat_digits : ∀ (n : Nat) (acc : ByteArray), decNat n acc = ⟨(Lib.decDigits n ++ acc.data.toList).toArray⟩ := by
  intro n
  induction n using Nat.strongRecOn with
  | _ n ih =>
    intro acc
    by_cases h : 9 < n
    · rw [decNat_more n acc h, ih (n / 10) (by omega), dd_more n (by omega)]
      apply ByteArray.ext
      simp [digB]
    · rw [decNat_last n acc h, dd_last n (by omega)]
      apply ByteArray.ext
      simp [digB]
theorem itoa_dec {n : Int} (h : -9223372036854775807 ≤ n) : (⟨(Lib.itoa n).toArray⟩ : ByteArray) = decI n := by
  unfold decI Lib.itoa
  rw [if_neg (show ¬ n < -9223372036854775807 by omega)]
  by_cases h0 : n < 0
  · rw [if_pos h0, if_pos h0, decNat_digits, show n.natAbs = (-n).toNat by omega]
    apply ByteArray.ext
    simp
  · rw [if_neg h0, if_neg h0, decNat_digits]
    apply ByteArray.ext
    simp

/-- The table of the powers of ten. -/
def Pow10 (w : World) : Prop := Lib.TabIs Tryz.prog w "internal/strconv.uint64pow10" .u64 Lib.pow10Tab
/-- The table of words. -/
def Words (w : World) : Prop := ∃ (b o c : Nat), w.cell? ⟨0, 0, none⟩ = some (.slice (some ⟨b, o, none⟩) 11 c) ∧ ∀ i : Nat, 1 ≤ i → i < 11 →
  w.cell? ⟨b, o + i * 3, none⟩ = some (.string (wordB i)) ∧ w.cell? ⟨b, o + i * 3 + 1, none⟩ = some (.bool (decide (argsN i ≠ 0))) ∧ w.cell? ⟨b, o + i * 3 + 2, none⟩ = some (.bool (decide (argsN i ≠ 1)))
def Laid (w : World) : Prop := Words w ∧ Pow10 w
theorem Laid.below {w w' : World} (h : Laid w) (hb : Below w.heap.size w w') : Laid w' := by
  obtain ⟨⟨b, o, c, h1, h2⟩, h3⟩ := h
  refine ⟨⟨b, o, c, keepc hb h1, fun i hi hi2 => ?_⟩, ?_⟩
  · obtain ⟨g1, g2, g3⟩ := h2 i hi hi2
    exact ⟨keepc hb g1, keepc hb g2, keepc hb g3⟩
  · unfold Pow10 Lib.TabIs World.var? at *
    cases hg : Program.globalNamed Tryz.prog "internal/strconv.uint64pow10" with
    | none => simp [hg] at h3
    | some g =>
      simp only [hg, Option.bind_some] at h3 ⊢
      have hlt : g < w.heap.size := by
        rcases Nat.lt_or_ge g w.heap.size with h' | h'
        · exact h'
        · rw [Array.getElem?_eq_none h'] at h3; simp at h3
      rw [hb.block g hlt]
      exact h3

theorem implItoa_any (n : Int) (w : World) (hL : Laid w) (h0 : -9223372036854775807 ≤ n) (h1 : n ≤ 9223372036854775807) :
    Calls Tryz.prog 62 #[.int .i64 n] w fun e w' => e = .returned (.string (decI n)) ∧ Below w.heap.size w w' := by
  refine (Tryz.strconv_Itoa n (by omega) h1 w hL.2).mono ?_
  rintro e w' ⟨rfl, k, os, rfl⟩
  exact ⟨by rw [itoa_dec h0], below_regrown _ _ _⟩

theorem args3 (k : Int) : argsN k = 0 ∨ argsN k = 1 ∨ argsN k = 2 := by
  unfold argsN
  split
  · exact .inr (.inl rfl)
  · split
    · exact .inl rfl
    · exact .inr (.inr rfl)
set_option maxRecDepth 100000 in
set_option maxHeartbeats 2000000 in
theorem implFormatOp_any (o : OpD) (w : World) (hL : Laid w) (hk : 1 ≤ o.kind ∧ o.kind ≤ 10) (h1 : -99 ≤ o.on ∧ o.on ≤ 99) (h2 : -99 ≤ o.arg ∧ o.arg ≤ 99) :
    Calls Tryz.prog 72 #[.agg #[.int .i64 o.kind, .int .i64 o.on, .int .i64 o.arg]] w fun e w' => e = .returned (.string (fmtOp o)) ∧ Below w.heap.size w w' := by
  obtain ⟨kd, on, arg⟩ := o
  dsimp only at hk h1 h2 ⊢
  obtain ⟨n, hn⟩ : ∃ n : Nat, kd = n := ⟨kd.toNat, by omega⟩
  subst hn
  have hn1 : 1 ≤ n := by omega
  have hn2 : n < 11 := by omega
  have B0 : Below w.heap.size w (w.alloc (.cells #[.int .i64 n, .int .i64 on, .int .i64 arg] 63)) := (Below.refl _ _).alloc (Nat.le_refl _) _
  have k0 : Blk (w.alloc (.cells #[.int .i64 n, .int .i64 on, .int .i64 arg] 63)) w.heap.size #[.int .i64 n, .int .i64 on, .int .i64 arg] 63 := Blk.new _ _ _
  have hL0 := hL.below B0
  obtain ⟨⟨tb, t0, tc, g0, gw⟩, -⟩ := hL0
  obtain ⟨gw0, gw1, gw2⟩ := gw n hn1 hn2
  obtain ⟨word, hword⟩ : ∃ s, s = wordB n := ⟨_, rfl⟩
  have hws : word.size ≤ 7 := by rw [hword]; exact wordB_size _
  rw [← hword] at gw0
  have HBT : Hid (fmtOp ⟨n, on, arg⟩ = if argsN (n : Int) = 0 then word ++ spB ++ decI arg else if argsN (n : Int) = 1 then word ++ spB ++ decI on else word ++ spB ++ decI on ++ spB ++ decI arg) := Lib.hid (by unfold fmtOp; rw [if_pos hk, hword])
  have t1 : decide ((n : Int) < 1) = false := decide_eq_false (by omega)
  have t2 : decide ((11 : Int) ≤ (n : Int)) = false := decide_eq_false (by omega)
  have c0 := k0.cell 0 rfl
  have c1 := k0.cell 1 rfl
  have c2 := k0.cell 2 rfl
  have i0 : (0 : Int) ≤ (n : Int) := by omega
  have i1 : (n : Int) < 11 := by omega
  have hso := decI_size on (by omega) (by omega)
  have hsa := decI_size arg (by omega) (by omega)
  have hs1 : spB.size = 1 := rfl
  have hLB : Hid (∀ w', Below w.heap.size w w' → Laid w') := Lib.hid (fun w' hb => hL.below hb)
  have HL := Lib.hid hL
  have HB0 := Lib.hid B0
  have hon : InI64 on := by unfold InI64; omega
  clear hword gw hL B0 k0
  rcases args3 n with ha | ha | ha
  · rw [ha] at gw1 gw2 HBT
    replace gw1 : (w.alloc (.cells #[.int .i64 n, .int .i64 on, .int .i64 arg] 63)).cell? ⟨tb, t0 + n * 3 + 1, none⟩ = some (.bool false) := gw1
    replace gw2 : (w.alloc (.cells #[.int .i64 n, .int .i64 on, .int .i64 arg] 63)).cell? ⟨tb, t0 + n * 3 + 2, none⟩ = some (.bool true) := gw2
    have B1 : Below w.heap.size w ((w.alloc (.cells #[.int .i64 n, .int .i64 on, .int .i64 arg] 63)).alloc (.cells #[.string word, .bool false, .bool true] 106)) := HB0.out.alloc HB0.out.size _
    have k1 : Blk ((w.alloc (.cells #[.int .i64 n, .int .i64 on, .int .i64 arg] 63)).alloc (.cells #[.string word, .bool false, .bool true] 106)) w.heap.size #[.int .i64 n, .int .i64 on, .int .i64 arg] 63 := (Blk.new _ _ _).alloc _
    have k2 : Blk ((w.alloc (.cells #[.int .i64 n, .int .i64 on, .int .i64 arg] 63)).alloc (.cells #[.string word, .bool false, .bool true] 106)) (w.heap.size + 1) #[.string word, .bool false, .bool true] 106 := by have := Blk.new (w.alloc (.cells #[.int .i64 n, .int .i64 on, .int .i64 arg] 63)) #[.string word, .bool false, .bool true] 106; simpa using this
    have e1 := k1.cell 1 rfl
    have e2 := k1.cell 2 rfl
    have d1 := k2.cell 1 rfl
    have d2 := k2.cell 2 rfl
    have d0 := k2.cell 0 rfl
    have hLW := HL.out.below B1
    clear ha k1 k2
    go_enter Tryz.func72, Tryz.ntmps72
    have ha1 := fun (W : World) => run_string_add_sum (P := Tryz.prog) (w := W) spB (decI arg) (by rw [hs1]; omega)
    have hb1 := fun (W : World) => run_string_add_sum (P := Tryz.prog) (w := W) (word) (spB ++ decI arg) (by simp only [ByteArray.size_append]; rw [hs1]; omega)
    go_wp2_with fail
    refine (implItoa_any arg _ hLW (by omega) (by omega)).mono ?_
    rintro e w2 ⟨rfl, hb⟩
    replace B1 := B1.trans (hb.mono B1.size)
    replace hLW := hLW.below hb
    replace e1 := keepc hb e1
    replace e2 := keepc hb e2
    replace d0 := keepc hb d0
    replace d1 := keepc hb d1
    replace d2 := keepc hb d2
    clear hb
    go_wp2
    go_ret
    exact ⟨ret_str (by rw [HBT.out]; simp [ByteArray.append_assoc, spB]), B1⟩
  · rw [ha] at gw1 gw2 HBT
    replace gw1 : (w.alloc (.cells #[.int .i64 n, .int .i64 on, .int .i64 arg] 63)).cell? ⟨tb, t0 + n * 3 + 1, none⟩ = some (.bool true) := gw1
    replace gw2 : (w.alloc (.cells #[.int .i64 n, .int .i64 on, .int .i64 arg] 63)).cell? ⟨tb, t0 + n * 3 + 2, none⟩ = some (.bool false) := gw2
    have B1 : Below w.heap.size w ((w.alloc (.cells #[.int .i64 n, .int .i64 on, .int .i64 arg] 63)).alloc (.cells #[.string word, .bool true, .bool false] 106)) := HB0.out.alloc HB0.out.size _
    have k1 : Blk ((w.alloc (.cells #[.int .i64 n, .int .i64 on, .int .i64 arg] 63)).alloc (.cells #[.string word, .bool true, .bool false] 106)) w.heap.size #[.int .i64 n, .int .i64 on, .int .i64 arg] 63 := (Blk.new _ _ _).alloc _
    have k2 : Blk ((w.alloc (.cells #[.int .i64 n, .int .i64 on, .int .i64 arg] 63)).alloc (.cells #[.string word, .bool true, .bool false] 106)) (w.heap.size + 1) #[.string word, .bool true, .bool false] 106 := by have := Blk.new (w.alloc (.cells #[.int .i64 n, .int .i64 on, .int .i64 arg] 63)) #[.string word, .bool true, .bool false] 106; simpa using this
    have e1 := k1.cell 1 rfl
    have e2 := k1.cell 2 rfl
    have d1 := k2.cell 1 rfl
    have d2 := k2.cell 2 rfl
    have d0 := k2.cell 0 rfl
    have hLW := HL.out.below B1
    clear ha k1 k2
    go_enter Tryz.func72, Tryz.ntmps72
    have ha1 := fun (W : World) => run_string_add_sum (P := Tryz.prog) (w := W) spB (decI on) (by rw [hs1]; omega)
    have hb1 := fun (W : World) => run_string_add_sum (P := Tryz.prog) (w := W) (word) (spB ++ decI on) (by simp only [ByteArray.size_append]; rw [hs1]; omega)
    go_wp2_with fail
    refine (implItoa_any on _ hLW (by omega) (by omega)).mono ?_
    rintro e w2 ⟨rfl, hb⟩
    replace B1 := B1.trans (hb.mono B1.size)
    replace hLW := hLW.below hb
    replace e1 := keepc hb e1
    replace e2 := keepc hb e2
    replace d0 := keepc hb d0
    replace d1 := keepc hb d1
    replace d2 := keepc hb d2
    clear hb
    go_wp2
    go_ret
    exact ⟨ret_str (by rw [HBT.out]; simp [ByteArray.append_assoc, spB]), B1⟩
  · rw [ha] at gw1 gw2 HBT
    replace gw1 : (w.alloc (.cells #[.int .i64 n, .int .i64 on, .int .i64 arg] 63)).cell? ⟨tb, t0 + n * 3 + 1, none⟩ = some (.bool true) := gw1
    replace gw2 : (w.alloc (.cells #[.int .i64 n, .int .i64 on, .int .i64 arg] 63)).cell? ⟨tb, t0 + n * 3 + 2, none⟩ = some (.bool true) := gw2
    have B1 : Below w.heap.size w ((w.alloc (.cells #[.int .i64 n, .int .i64 on, .int .i64 arg] 63)).alloc (.cells #[.string word, .bool true, .bool true] 106)) := HB0.out.alloc HB0.out.size _
    have k1 : Blk ((w.alloc (.cells #[.int .i64 n, .int .i64 on, .int .i64 arg] 63)).alloc (.cells #[.string word, .bool true, .bool true] 106)) w.heap.size #[.int .i64 n, .int .i64 on, .int .i64 arg] 63 := (Blk.new _ _ _).alloc _
    have k2 : Blk ((w.alloc (.cells #[.int .i64 n, .int .i64 on, .int .i64 arg] 63)).alloc (.cells #[.string word, .bool true, .bool true] 106)) (w.heap.size + 1) #[.string word, .bool true, .bool true] 106 := by have := Blk.new (w.alloc (.cells #[.int .i64 n, .int .i64 on, .int .i64 arg] 63)) #[.string word, .bool true, .bool true] 106; simpa using this
    have e1 := k1.cell 1 rfl
    have e2 := k1.cell 2 rfl
    have d1 := k2.cell 1 rfl
    have d2 := k2.cell 2 rfl
    have d0 := k2.cell 0 rfl
    have hLW := HL.out.below B1
    clear ha k1 k2
    go_enter Tryz.func72, Tryz.ntmps72
    have ha1 := fun (W : World) => run_string_add_sum (P := Tryz.prog) (w := W) spB (decI on) (by rw [hs1]; omega)
    have hb1 := fun (W : World) => run_string_add_sum (P := Tryz.prog) (w := W) (word) (spB ++ decI on) (by simp only [ByteArray.size_append]; rw [hs1]; omega)
    go_wp2_with fail
    refine (implItoa_any on _ hLW (by omega) (by omega)).mono ?_
    rintro e w2 ⟨rfl, hb⟩
    replace B1 := B1.trans (hb.mono B1.size)
    replace hLW := hLW.below hb
    replace e1 := keepc hb e1
    replace e2 := keepc hb e2
    replace d0 := keepc hb d0
    replace d1 := keepc hb d1
    replace d2 := keepc hb d2
    clear hb
    have ha2 := fun (W : World) => run_string_add_sum (P := Tryz.prog) (w := W) spB (decI arg) (by rw [hs1]; omega)
    have hb2 := fun (W : World) => run_string_add_sum (P := Tryz.prog) (w := W) (word ++ (spB ++ decI on)) (spB ++ decI arg) (by simp only [ByteArray.size_append]; rw [hs1]; omega)
    go_wp2_with fail
    refine (implItoa_any arg _ hLW (by omega) (by omega)).mono ?_
    rintro e w3 ⟨rfl, hb⟩
    replace B1 := B1.trans (hb.mono B1.size)
    replace hLW := hLW.below hb
    replace e1 := keepc hb e1
    replace e2 := keepc hb e2
    replace d0 := keepc hb d0
    replace d1 := keepc hb d1
    replace d2 := keepc hb d2
    clear hb
    go_wp2
    go_ret
    exact ⟨ret_str (by rw [HBT.out]; simp [ByteArray.append_assoc, spB]), B1⟩

end Go.Proofs.YthamndmfenpniaaGreatDoor
