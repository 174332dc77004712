/- The program's ParseOp. -/
import Derived.Test.YthamndmfenpniaaGreatDoorPNum
import Derived.Test.YthamndmfenpniaaGreatDoorThrImpl
import Derived.Test.YthamndmfenpniaaGreatDoorBaseC
import Derived.Lib.CutLaws
import Derived.BigQuiet
namespace Go.Proofs.YthamndmfenpniaaGreatDoor
open Go.RowKit

theorem splitB_sum (sep : ByteArray) : ∀ (k : Nat) (s : ByteArray), ((Lib.splitB sep 0 k s).map fun x => x.size + sep.size).sum ≤ s.size + sep.size
  | 0, s => by simp [Lib.splitB_zero]
  | k + 1, s => by
    rcases Lib.indexB_cases s sep with h | ⟨i, h, hi⟩
    · rw [Lib.splitB_miss sep 0 _ s h]; simp
    · have ih := splitB_sum sep k (s.extract (i + sep.size) s.size)
      rw [Lib.splitB_hit sep 0 k s i h]
      simp only [List.map_cons, List.sum_cons, ByteArray.size_extract] at ih ⊢
      omega
theorem mem_sum {l : List ByteArray} {x : ByteArray} (c : Nat) (h : x ∈ l) : x.size + c ≤ (l.map fun x => x.size + c).sum := by
  induction l with
  | nil => cases h
  | cons y l ih =>
    rw [List.map_cons, List.sum_cons]
    rcases List.mem_cons.1 h with rfl | h
    · omega
    · have := ih h; omega
theorem piece_size {s sep x : ByteArray} (h : x ∈ pieceB s sep) : x.size ≤ s.size := by
  have h1 := mem_sum sep.size h
  have h2 := splitB_sum sep (Lib.countB s sep) s
  unfold pieceB at h1
  omega
theorem piece_len {s sep : ByteArray} (h : 1 ≤ sep.size) : (pieceB s sep).length = Lib.countB s sep + 1 := Lib.splitB_all sep h 0 _ s rfl
theorem piece_count {s sep : ByteArray} (h : 1 ≤ sep.size) : (pieceB s sep).length ≤ s.size + 1 := by
  have := Lib.countB_le sep h s.size s (Nat.le_refl _)
  rw [piece_len h]
  omega
theorem rd_tl {w : World} {b o : Nat} {h : Value} {t : List Value} (hr : Rd w (some ⟨b, o, none⟩) (h :: t)) : Rd w (some ⟨b, o + 1, none⟩) t := by
  rcases hr with h0 | ⟨b', o', e, hc⟩
  · cases h0
  · simp only [Option.some.injEq, Addr.mk.injEq, and_true] at e
    obtain ⟨rfl, rfl⟩ := e
    refine .inr ⟨b, o + 1, rfl, fun j hj => ?_⟩
    have := hc (1 + j) (by rw [List.length_cons]; omega)
    rw [Nat.add_assoc, this, Nat.add_comm 1 j]
    rfl
/-- A slice of texts behind its first one. -/
theorem tailS {w0 : World} {a : Option Addr} {n c : Nat} {x : Value} {xs : List Value} (h0 : Rd w0 a (x :: xs)) (hl : xs.length + 1 = n) (hc : n ≤ c) :
    ∃ A : Option Addr, (∀ W : World, (Instr.slice 42 (.slice a n c) (some (.int .i64 1)) none none).run Tryz.prog W = .ok (.slice A (n - 1) (c - 1)) W) ∧ (∀ W : World, Rd W a (x :: xs) → Rd W A xs) := by
  rcases h0 with h0 | ⟨b, o, rfl, h0⟩
  · cases h0
  refine ⟨some (if c = 1 then (⟨b, o, none⟩ : Addr) else ⟨b, o + 1, none⟩), fun W => ?_, fun W h => ?_⟩
  · have u1 : (1 : Int) ≤ (n : Int) := by omega
    have u2 : (n : Int) ≤ (c : Int) := by omega
    have u3 : (1 : Int) ≤ (c : Int) := by omega
    go_simp
    split <;> rfl
  · by_cases h1 : c = 1
    · have : xs = [] := List.eq_nil_of_length_eq_zero (by omega)
      exact .inl this
    · rw [if_neg h1]
      exact rd_tl h

/-- What the loop over an operation's two fields has read: the numbers, and how many texts it took. -/
def fld1 (k : Int) (l : List ByteArray) : Option (Int × Int × Nat) := if argsN k = 0 then some (0, 0, 0) else if l.length = 0 then none else (numI (l.getD 0 noB)).map fun x => (x, 0, 1)
def fld (k : Int) (l : List ByteArray) : Nat → Option (Int × Int × Nat)
  | 0 => some (0, 0, 0)
  | 1 => fld1 k l
  | _ + 2 => (fld1 k l).bind fun st => if argsN k = 1 then some st else if l.length ≤ st.2.2 then none else (numI (l.getD st.2.2 noB)).map fun y => (st.1, y, st.2.2 + 1)
theorem restI_fld (k : Int) (l : List ByteArray) : restI k l = (fld k l 2).bind fun st => if st.2.2 < l.length then none else some ⟨k, st.1, st.2.1⟩ := by
  rcases args3 k with ha | ha | ha
  all_goals
    match l with
    | [] => simp [restI, fld, fld1, ha]
    | [a] => cases h1 : numI a <;> simp [restI, fld, fld1, ha, h1]
    | [a, b] => cases h1 : numI a <;> cases h2 : numI b <;> simp [restI, fld, fld1, ha, h1, h2]
    | a :: b :: c :: r => cases h1 : numI a <;> cases h2 : numI b <;> simp [restI, fld, fld1, ha, h1, h2]
theorem kindOf_next {w : ByteArray} {k : Nat} (h : kindOf w k = none) : kindOf w (k + 1) = if wordB ((k : Int) + 1) = w then some (k + 1) else none := by
  show (match kindOf w k with | some k => some k | none => if wordB ((k : Int) + 1) = w then some (k + 1) else none) = _
  rw [h]
/- THE WALK -/
set_option maxRecDepth 100000 in
set_option maxHeartbeats 8000000 in
theorem implParseOp_any (s : ByteArray) (w : World) (hL : Laid2 w) (hs : s.size ≤ 16777216) :
    Calls Tryz.prog 59 #[.string s] w fun e w' => e = .returned (.tuple #[.agg #[.int .i64 ((opI (pieceB s spB)).getD zeroOp).kind, .int .i64 ((opI (pieceB s spB)).getD zeroOp).on, .int .i64 ((opI (pieceB s spB)).getD zeroOp).arg], .bool (opI (pieceB s spB)).isSome]) ∧ Below w.heap.size w w' := by
  have B0 : Below w.heap.size w (w.alloc (.cells #[.int .i64 0, .int .i64 0, .int .i64 0] 63)) := (Below.refl _ _).alloc (Nat.le_refl _) _
  have kR : Blk (w.alloc (.cells #[.int .i64 0, .int .i64 0, .int .i64 0] 63)) w.heap.size #[.int .i64 0, .int .i64 0, .int .i64 0] 63 := Blk.new _ _ _
  have hL0 := hL.below B0
  obtain ⟨m, hm⟩ := hL0.len
  have HL := Lib.hid hL0
  have hp1 : w.heap.size ≠ (w.alloc (.cells #[.int .i64 0, .int .i64 0, .int .i64 0] 63)).heap.size := by simp
  clear hL hL0
  go_enter Tryz.func59, Tryz.ntmps59
  go_wp2_with fail
  refine (Tryz.strings_Split s ⟨#[32]⟩ m _ (by omega) hm (by decide)).mono ?_
  rintro e w1 ⟨rfl, hw1⟩
  obtain ⟨parts, hpt⟩ : ∃ parts, parts = pieceB s spB := ⟨_, rfl⟩
  have hlen : Lib.countB s ⟨#[32]⟩ + 1 = parts.length := by rw [hpt]; exact (piece_len (s := s) (sep := spB) (by decide)).symm
  have hw2 : w1 = (w.alloc (.cells #[.int .i64 0, .int .i64 0, .int .i64 0] 63)).alloc (.cells (parts.map Value.string).toArray 9) := by rw [hpt]; exact hw1
  have kW : Blk w1 (w.alloc (.cells #[.int .i64 0, .int .i64 0, .int .i64 0] 63)).heap.size (parts.map Value.string).toArray 9 := by rw [hw2]; exact Blk.new _ _ _
  have hb1 : Below (w.alloc (.cells #[.int .i64 0, .int .i64 0, .int .i64 0] 63)).heap.size (w.alloc (.cells #[.int .i64 0, .int .i64 0, .int .i64 0] 63)) w1 := by rw [hw2]; exact (Below.refl _ _).alloc (Nat.le_refl _) _
  have hpos : 1 ≤ parts.length := by omega
  have hmax : parts.length ≤ 16777217 := by have := piece_count (s := s) (sep := spB) (by decide); rw [← hpt] at this; omega
  have HSZ : Hid (∀ x ∈ parts, x.size ≤ 4294967296) := Lib.hid (fun x hx => by rw [hpt] at hx; have := piece_size hx; omega)
  rw [hlen]
  obtain ⟨P, hP⟩ : ∃ P, P = (w.alloc (.cells #[.int .i64 0, .int .i64 0, .int .i64 0] 63)).heap.size := ⟨_, rfl⟩
  rw [← hP] at kW hp1 ⊢
  have HL1 := Lib.hid (HL.out.below hb1)
  have HB1 := Lib.hid (B0.trans (hb1.mono B0.size))
  have HKR := Lib.hid (kR.below hb1)
  have HKW := Lib.hid kW
  have HRD : Hid (Rd w1 (some ⟨P, 0, none⟩) (strs parts)) := Lib.hid (by have := Rd.of_blk kW; simpa using this)
  have hPl := kW.lt
  have hRl := (kR.below hb1).lt
  have HPT := Lib.hid hpt
  clear hw1 hw2 hb1 B0 kR kW HL hm hP hlen hpt
  obtain ⟨np, hnp⟩ : ∃ np, np = parts.length := ⟨_, rfl⟩
  rw [← hnp] at hpos hmax ⊢
  have HNP := Lib.hid hnp
  obtain ⟨p0, pr, hparts⟩ : ∃ p0 pr, parts = p0 :: pr := by
    cases parts with
    | nil => rw [List.length_nil] at hnp; omega
    | cons a l => exact ⟨a, l, rfl⟩
  have hprl : pr.length + 1 = np := by rw [hnp, hparts]; rfl
  have HOP : Hid (opI (pieceB s spB) = (kindOf p0 10).bind fun k => restI k pr) := Lib.hid (by rw [← HPT.out, hparts]; rfl)
  have HPP := Lib.hid hparts
  have HPR := Lib.hid hprl
  clear hnp hparts hprl
  go_wp2
  go_loopw [5] (fun vk wk => ∃ k : Nat, 1 ≤ k ∧ k ≤ 11 ∧ vk = .int .i64 k ∧ Hid (kindOf p0 (k - 1) = none) ∧ Hid (Below w1.heap.size w1 wk)) (fun vk _ => 11 - (intOf vk).toNat)
  case atStart => exact ⟨1, by omega, by omega, rfl, Lib.hid rfl, Lib.hid (Below.refl _ _)⟩
  case round =>
    obtain ⟨k, hk1, hk11, rfl, hkn, hbk⟩ := hrel
    have hB3 := HB1.out.trans (hbk.out.mono HB1.out.size)
    have hS := hbk.out.size
    obtain ⟨⟨⟨tb, tz, tc, g0, gw⟩, -⟩, -, -, -⟩ := HL1.out.below hbk.out
    by_cases hlt : k < 11
    · obtain ⟨gw0, gw1, gw2⟩ := gw k hk1 hlt
      obtain ⟨Wd, hWd⟩ : ∃ Wd, Wd = wordB k := ⟨_, rfl⟩
      obtain ⟨b1, hb1⟩ : ∃ b1, b1 = decide (argsN k ≠ 0) := ⟨_, rfl⟩
      obtain ⟨b2, hb2⟩ : ∃ b2, b2 = decide (argsN k ≠ 1) := ⟨_, rfl⟩
      rw [← hWd] at gw0
      rw [← hb1] at gw1
      rw [← hb2] at gw2
      have hnx : kindOf p0 k = if Wd = p0 then some k else none := by
        have := kindOf_next hkn.out
        rw [show k - 1 + 1 = k by omega] at this
        rw [this, hWd]
        have e : (((k - 1 : Nat) : Int) + 1) = (k : Int) := by omega
        rw [e]
      have t1 : decide ((k : Int) < 11) = true := decide_eq_true (by omega)
      have i0 : (0 : Int) ≤ (k : Int) := by omega
      have i1 : (k : Int) < 11 := by omega
      have j1 : (0 : Int) < (np : Int) := by omega
      have j2 : ¬ np = 0 := by omega
      have hbE : Below w1.heap.size w1 (wr.alloc (.cells #[.string Wd, .bool b1, .bool b2] 106)) := hbk.out.alloc hS _
      have kE : Blk (wr.alloc (.cells #[.string Wd, .bool b1, .bool b2] 106)) wr.heap.size #[.string Wd, .bool b1, .bool b2] 106 := Blk.new _ _ _
      have d0 := kE.cell 0 rfl
      have d1 := kE.cell 1 rfl
      have d2 := kE.cell 2 rfl
      have gp := (HKW.out.below hbE).cell 0 (v := .string p0) (by rw [HPP.out]; rfl)
      have HBE := Lib.hid hbE
      have HB12 := Lib.hid (And.intro hb1 hb2)
      clear gw hWd hb1 hb2 hbE kE
      by_cases hq : Wd = p0
      · have hkk : kindOf p0 k = some k := by rw [hnx, if_pos hq]
        have HK : Hid (opI (pieceB s spB) = (fld k pr 2).bind fun st => if st.2.2 < pr.length then none else some ⟨k, st.1, st.2.1⟩) := Lib.hid (by
          rw [HOP.out]
          have := kindOf_stays hkk (10 - k)
          rw [show k + (10 - k) = 10 by omega] at this
          rw [this]
          exact restI_fld k pr)
        have q0 : (Wd.toList == p0.toList) = true := by rw [hq]; simp
        obtain ⟨A1, hsl, hA1⟩ := tailS (n := np) (c := np) (x := .string p0) (xs := strs pr) (show Rd w1 (some ⟨P, 0, none⟩) (strs (p0 :: pr)) by have := HRD.out; rw [HPP.out] at this; exact this) (by rw [List.length_map]; exact HPR.out) (Nat.le_refl _)
        have HA1 : Hid (Rd w1 A1 (strs pr)) := Lib.hid (hA1 w1 (by have := HRD.out; rw [HPP.out] at this; exact this))
        clear hnx hkk hq hA1
        obtain ⟨wo, rfl⟩ : ∃ x, x = wr := ⟨_, rfl⟩
        go_wp2
        go_quiet (fail)
        obtain ⟨W1, hW1⟩ : ∃ W1 : World, W1 = (wo.alloc (.cells #[.string Wd, .bool b1, .bool b2] 106)).drewN nq := ⟨_, rfl⟩
        have hd : Below (wo.alloc (.cells #[.string Wd, .bool b1, .bool b2] 106)).heap.size (wo.alloc (.cells #[.string Wd, .bool b1, .bool b2] 106)) W1 := by rw [hW1]; exact below_drewN' _ _
        rw [← hW1]
        have hbW := HBE.out.trans (hd.mono HBE.out.size)
        have hWW := hbW.size
        have e1 := keepc ((Below.refl _ _).alloc (Nat.le_refl _) (.cells #[.int .i64 k, .int .i64 0, .int .i64 0] 63)) (keepc hd d1)
        have e2 := keepc ((Below.refl _ _).alloc (Nat.le_refl _) (.cells #[.int .i64 k, .int .i64 0, .int .i64 0] 63)) (keepc hd d2)
        have HO0 : Hid (Blk (W1.alloc (.cells #[.int .i64 k, .int .i64 0, .int .i64 0] 63)) W1.heap.size #[.int .i64 k, .int .i64 0, .int .i64 0] 63) := Lib.hid (Blk.new _ _ _)
        have HBO := Lib.hid (hbW.alloc hWW (.cells #[.int .i64 k, .int .i64 0, .int .i64 0] 63))
        have hOs : (W1.alloc (.cells #[.int .i64 k, .int .i64 0, .int .i64 0] 63)).heap.size = W1.heap.size + 1 := by simp
        have HOS := Lib.hid hOs
        clear hW1 hd hbW d0 d1 d2 gp gw0 gw1 gw2 g0 q0 hOs
        go_wp2
        go_loopw [8, 45] (fun va vj wj => ∃ (j c m : Nat) (x y : Int) (A : Option Addr) (cm : Nat), j ≤ 2 ∧ vj = .int .i64 j ∧ va = .slice A m cm ∧ Hid (m + c + 1 = np) ∧ m ≤ cm ∧ Hid (fld k pr j = some (x, y, c)) ∧ Hid (Rd w1 A (strs (pr.drop c))) ∧ Hid (Blk wj W1.heap.size #[.int .i64 k, .int .i64 x, .int .i64 y] 63) ∧ Hid (Blk wj (W1.heap.size + 1) #[.bool b1, .pointer (some ⟨W1.heap.size, 1, none⟩), .bool b2, .pointer (some ⟨W1.heap.size, 2, none⟩)] 108) ∧ Hid (Below w1.heap.size w1 wj)) (fun _ vj _ => 2 - (intOf vj).toNat)
        case atStart => exact ⟨0, 0, np - 1, 0, 0, A1, np - 1, by omega, rfl, rfl, Lib.hid (by omega), Nat.le_refl _, Lib.hid rfl, HA1, Lib.hid (HO0.out.alloc _), Lib.hid (by have := Blk.new (W1.alloc (.cells #[.int .i64 k, .int .i64 0, .int .i64 0] 63)) #[.bool b1, .pointer (some ⟨W1.heap.size, 1, none⟩), .bool b2, .pointer (some ⟨W1.heap.size, 2, none⟩)] 108; rw [HOS.out] at this; exact this), Lib.hid (HBO.out.alloc HBO.out.size _)⟩
        case round =>
          obtain ⟨j, c, m, x, y, A, cm, hj2, rfl, rfl, hmc, hcm, hfl, hrd, hkO, hkS, hbj⟩ := hrel
          clear e1 e2 hsl
          by_cases hj : j = 0
          · have jj : (j : Int) = 0 := by omega
            have s0 : wr.cell? ⟨W1.heap.size + 1, j * 2, none⟩ = some (.bool b1) := by rw [hj]; exact hkS.out.cell 0 rfl
            have s1 : wr.cell? ⟨W1.heap.size + 1, j * 2 + 1, none⟩ = some (.pointer (some ⟨W1.heap.size, 1, none⟩)) := by rw [hj]; exact hkS.out.cell 1 rfl
            have u0 : (0 : Int) ≤ (j : Int) := by omega
            have u1 : (j : Int) < 2 := by omega
            have HJ := Lib.hid hj
            by_cases ha : argsN k = 0
            · have eb : b1 = false := by rw [HB12.out.1]; simp [ha]
              have HF1 : Hid (fld k pr (j + 1) = some (x, y, c)) := Lib.hid (by
                rw [hj] at hfl ⊢
                show (if argsN k = 0 then some (0, 0, 0) else if pr.length = 0 then none else (numI (pr.getD 0 noB)).map fun x => (x, 0, 1)) = _
                rw [if_pos ha]
                exact hfl.out
                )
              clear hj jj
              rw [eb] at s0 hkS
              subst eb
              go_wp2
              go_roundw
              case rel => exact ⟨j + 1, c, m, x, y, A, cm, by omega, by go_num, rfl, hmc, hcm, HF1, hrd, Lib.hid (hkO.out.alloc _), Lib.hid (hkS.out.alloc _), Lib.hid (hbj.out.alloc hbj.out.size _)⟩
              case measure => simp [intOf]; omega
            · have eb : b1 = true := by rw [HB12.out.1]; simp [ha]
              rw [eb] at s0 hkS
              have hbF : Below w1.heap.size w1 (wr.alloc (.cells #[.bool true, .pointer (some ⟨W1.heap.size, 1, none⟩)] 108)) := hbj.out.alloc hbj.out.size _
              have kF : Blk (wr.alloc (.cells #[.bool true, .pointer (some ⟨W1.heap.size, 1, none⟩)] 108)) wr.heap.size #[.bool true, .pointer (some ⟨W1.heap.size, 1, none⟩)] 108 := Blk.new _ _ _
              have f1 := kF.cell 1 rfl
              have HBF := Lib.hid hbF
              have HKO := Lib.hid (hkO.out.alloc (.cells #[.bool true, .pointer (some ⟨W1.heap.size, 1, none⟩)] 108))
              have HKS := Lib.hid (hkS.out.alloc (.cells #[.bool true, .pointer (some ⟨W1.heap.size, 1, none⟩)] 108))
              clear hbF kF
              subst eb
              by_cases hm0 : m = 0
              · have HF1 : Hid (fld k pr (j + 1) = none) := Lib.hid (by
                  have hp := HPR.out
                  have hq := hmc.out
                  rw [hj] at hfl ⊢
                  have hz9 : 0 = x ∧ 0 = y ∧ 0 = c := by have := hfl.out; simpa [fld] using this
                  obtain ⟨rfl, rfl, rfl⟩ := hz9
                  show (if argsN k = 0 then some (0, 0, 0) else if pr.length = 0 then none else (numI (pr.getD 0 noB)).map fun x => (x, 0, 1)) = _
                  rw [if_neg ha]
                  rw [if_pos (by omega)]
                  )
                have HR : Hid (opI (pieceB s spB) = none) := Lib.hid (by
                  rw [HK.out]
                  have : fld k pr 2 = none := by
                    have hf1 := HF1.out
                    rw [hj] at hf1
                    show (fld1 k pr).bind _ = none
                    rw [show fld1 k pr = none from hf1]
                    rfl
                  rw [this]; rfl)
                have e0 : ((m : Int) == 0) = true := by simp [hm0]
                clear hj jj hkO hkS hmc hm0
                have kR6 := HKR.out.below HBF.out
                have y0 := kR6.cell 0 rfl
                have x0 := kR6.fz 0
                have y1 := kR6.cell 1 rfl
                have x1 := kR6.fz 1
                have y2 := kR6.cell 2 rfl
                have x2 := kR6.fz 2
                have hBB := HB1.out.trans ((HBF.out).mono HB1.out.size)
                clear kR6
                go_wp2
                refine bodyPost_ret (v := .tuple #[.agg #[.int .i64 0, .int .i64 0, .int .i64 0], .bool false]) (by simp [results, Tryz.results59, go_sem, y0, y1, y2]) rfl ⟨by rw [HR.out]; rfl, ?_⟩
                exact (((hBB.setCell (Nat.le_refl _) _).setCell (Nat.le_refl _) _).setCell (Nat.le_refl _) _)
              · obtain ⟨z, hz⟩ : ∃ z, z = pr.getD c noB := ⟨_, rfl⟩
                have hcl : c < pr.length := by have hp := HPR.out; have hq := hmc.out; omega
                have hdr : pr.drop c = z :: pr.drop (c + 1) := by rw [hz, List.getD_eq_getElem?_getD, List.getElem?_eq_getElem hcl]; exact List.drop_eq_getElem_cons hcl
                have hzs : z.size ≤ 4294967296 := HSZ.out z (by
                  rw [HPP.out, hz, List.getD_eq_getElem?_getD, List.getElem?_eq_getElem hcl]
                  exact List.mem_cons_of_mem _ (List.getElem_mem hcl))
                have hst : fld k pr (j + 1) = (numI z).map fun n => (n, y, c + 1) := by
                  rw [hj] at hfl ⊢
                  have hz9 : 0 = x ∧ 0 = y ∧ 0 = c := by have := hfl.out; simpa [fld] using this
                  obtain ⟨rfl, rfl, rfl⟩ := hz9
                  show (if argsN k = 0 then some (0, 0, 0) else if pr.length = 0 then none else (numI (pr.getD 0 noB)).map fun x => (x, 0, 1)) = _
                  rw [if_neg ha]
                  rw [if_neg (by omega)]
                  rw [hz]
                have hrd0 : Rd w1 A (Value.string z :: strs (pr.drop (c + 1))) := by have := hrd.out; rw [hdr] at this; exact this
                have hdl : (strs (pr.drop (c + 1))).length + 1 = m := by rw [List.length_map, List.length_drop]; have hp := HPR.out; have hq := hmc.out; omega
                obtain ⟨A2, hsl2, hA2⟩ := tailS hrd0 hdl hcm
                have HA2 := Lib.hid (hA2 w1 hrd0)
                obtain ⟨b, o, rfl, hc⟩ := (Rd.below hrd0 HBF.out).at (by simp)
                have g0 : (wr.alloc (.cells #[.bool true, .pointer (some ⟨W1.heap.size, 1, none⟩)] 108)).cell? ⟨b, o, none⟩ = some (.string z) := hc 0 (by simp)
                have v0 : (0 : Int) < (m : Int) := by omega
                have v1 : ((m : Int) == 0) = false := by simp; omega
                have HM1 : Hid ((m - 1) + (c + 1) + 1 = np) := Lib.hid (by have hq := hmc.out; omega)
                have hcm2 : m - 1 ≤ cm - 1 := by omega
                clear hz hdr hrd0 hdl hA2 hc hcl hkO hkS hrd jj
                cases hn : numI z with
                | none =>
                  have HNN := Lib.hid hn
                  have HF1 : Hid (fld k pr (j + 1) = none) := Lib.hid (by rw [hst, hn]; rfl)
                  have HR : Hid (opI (pieceB s spB) = none) := Lib.hid (by
                    rw [HK.out]
                    have : fld k pr 2 = none := by
                      have hf1 := HF1.out
                      rw [hj] at hf1
                      show (fld1 k pr).bind _ = none
                      rw [show fld1 k pr = none from hf1]
                      rfl
                    rw [this]; rfl)
                  clear hj hst hn
                  go_wp2_with fail
                  refine (implParseNumber_any z _ (HL1.out.below HBF.out) hzs).mono ?_
                  rintro e w3 ⟨rfl, hb3⟩
                  rw [HNN.out]
                  simp only [Option.getD_none, Option.isSome_none]
                  have HB3 := Lib.hid (HBF.out.trans (hb3.mono HBF.out.size))
                  clear hb3
                  have kR6 := HKR.out.below HB3.out
                  have y0 := kR6.cell 0 rfl
                  have x0 := kR6.fz 0
                  have y1 := kR6.cell 1 rfl
                  have x1 := kR6.fz 1
                  have y2 := kR6.cell 2 rfl
                  have x2 := kR6.fz 2
                  have hBB := HB1.out.trans ((HB3.out).mono HB1.out.size)
                  clear kR6
                  go_wp2
                  refine bodyPost_ret (v := .tuple #[.agg #[.int .i64 0, .int .i64 0, .int .i64 0], .bool false]) (by simp [results, Tryz.results59, go_sem, y0, y1, y2]) rfl ⟨by rw [HR.out]; rfl, ?_⟩
                  exact (((hBB.setCell (Nat.le_refl _) _).setCell (Nat.le_refl _) _).setCell (Nat.le_refl _) _)
                | some n =>
                  have HNN := Lib.hid hn
                  have HF1 : Hid (fld k pr (j + 1) = some (n, y, c + 1)) := Lib.hid (by rw [hst, hn]; rfl)
                  clear hj hst hn
                  go_wp2_with fail
                  refine (implParseNumber_any z _ (HL1.out.below HBF.out) hzs).mono ?_
                  rintro e w3 ⟨rfl, hb3⟩
                  rw [HNN.out]
                  simp only [Option.getD_some, Option.isSome_some]
                  have HB3 := Lib.hid (HBF.out.trans (hb3.mono HBF.out.size))
                  replace f1 := keepc hb3 f1
                  have hkO3 := HKO.out.below hb3
                  have o1 := hkO3.cell 1 rfl
                  have o2 := hkO3.fz 1
                  have HKO3 := Lib.hid hkO3
                  have HKS3 := Lib.hid (HKS.out.below hb3)
                  clear hb3 hkO3
                  go_wp2
                  go_roundw
                  case rel => exact ⟨j + 1, c + 1, m - 1, n, y, A2, cm - 1, by omega, by go_num, rfl, HM1, hcm2, HF1, HA2, Lib.hid (HKO3.out.set 1 (.int .i64 n)), Lib.hid (HKS3.out.other _ _ (by simp)), Lib.hid (HB3.out.setCell hWW _)⟩
                  case measure => simp [intOf]; omega
          · by_cases hj1 : j = 1
            · have jj : (j : Int) = 1 := by omega
              have s0 : wr.cell? ⟨W1.heap.size + 1, j * 2, none⟩ = some (.bool b2) := by rw [hj1]; exact hkS.out.cell 2 rfl
              have s1 : wr.cell? ⟨W1.heap.size + 1, j * 2 + 1, none⟩ = some (.pointer (some ⟨W1.heap.size, 2, none⟩)) := by rw [hj1]; exact hkS.out.cell 3 rfl
              have u0 : (0 : Int) ≤ (j : Int) := by omega
              have u1 : (j : Int) < 2 := by omega
              have HJ := Lib.hid hj1
              by_cases ha : argsN k = 1
              · have eb : b2 = false := by rw [HB12.out.2]; simp [ha]
                have HF1 : Hid (fld k pr (j + 1) = some (x, y, c)) := Lib.hid (by
                  rw [hj1] at hfl ⊢
                  show (fld k pr 1).bind _ = _
                  rw [hfl.out]
                  show (if argsN k = 1 then some (x, y, c) else if pr.length ≤ c then none else (numI (pr.getD c noB)).map fun z => (x, z, c + 1)) = _
                  rw [if_pos ha]
                  )
                clear hj1 hj jj
                rw [eb] at s0 hkS
                subst eb
                go_wp2
                go_roundw
                case rel => exact ⟨j + 1, c, m, x, y, A, cm, by omega, by go_num, rfl, hmc, hcm, HF1, hrd, Lib.hid (hkO.out.alloc _), Lib.hid (hkS.out.alloc _), Lib.hid (hbj.out.alloc hbj.out.size _)⟩
                case measure => simp [intOf]; omega
              · have eb : b2 = true := by rw [HB12.out.2]; simp [ha]
                rw [eb] at s0 hkS
                have hbF : Below w1.heap.size w1 (wr.alloc (.cells #[.bool true, .pointer (some ⟨W1.heap.size, 2, none⟩)] 108)) := hbj.out.alloc hbj.out.size _
                have kF : Blk (wr.alloc (.cells #[.bool true, .pointer (some ⟨W1.heap.size, 2, none⟩)] 108)) wr.heap.size #[.bool true, .pointer (some ⟨W1.heap.size, 2, none⟩)] 108 := Blk.new _ _ _
                have f1 := kF.cell 1 rfl
                have HBF := Lib.hid hbF
                have HKO := Lib.hid (hkO.out.alloc (.cells #[.bool true, .pointer (some ⟨W1.heap.size, 2, none⟩)] 108))
                have HKS := Lib.hid (hkS.out.alloc (.cells #[.bool true, .pointer (some ⟨W1.heap.size, 2, none⟩)] 108))
                clear hbF kF
                subst eb
                by_cases hm0 : m = 0
                · have HF1 : Hid (fld k pr (j + 1) = none) := Lib.hid (by
                    have hp := HPR.out
                    have hq := hmc.out
                    rw [hj1] at hfl ⊢
                    show (fld k pr 1).bind _ = _
                    rw [hfl.out]
                    show (if argsN k = 1 then some (x, y, c) else if pr.length ≤ c then none else (numI (pr.getD c noB)).map fun z => (x, z, c + 1)) = _
                    rw [if_neg ha]
                    rw [if_pos (by omega)]
                    )
                  have HR : Hid (opI (pieceB s spB) = none) := Lib.hid (by
                    rw [HK.out]
                    have : fld k pr 2 = none := by
                      have hf1 := HF1.out
                      rw [hj1] at hf1
                      exact hf1
                    rw [this]; rfl)
                  have e0 : ((m : Int) == 0) = true := by simp [hm0]
                  clear hj1 hj jj hkO hkS hmc hm0
                  have kR6 := HKR.out.below HBF.out
                  have y0 := kR6.cell 0 rfl
                  have x0 := kR6.fz 0
                  have y1 := kR6.cell 1 rfl
                  have x1 := kR6.fz 1
                  have y2 := kR6.cell 2 rfl
                  have x2 := kR6.fz 2
                  have hBB := HB1.out.trans ((HBF.out).mono HB1.out.size)
                  clear kR6
                  go_wp2
                  refine bodyPost_ret (v := .tuple #[.agg #[.int .i64 0, .int .i64 0, .int .i64 0], .bool false]) (by simp [results, Tryz.results59, go_sem, y0, y1, y2]) rfl ⟨by rw [HR.out]; rfl, ?_⟩
                  exact (((hBB.setCell (Nat.le_refl _) _).setCell (Nat.le_refl _) _).setCell (Nat.le_refl _) _)
                · obtain ⟨z, hz⟩ : ∃ z, z = pr.getD c noB := ⟨_, rfl⟩
                  have hcl : c < pr.length := by have hp := HPR.out; have hq := hmc.out; omega
                  have hdr : pr.drop c = z :: pr.drop (c + 1) := by rw [hz, List.getD_eq_getElem?_getD, List.getElem?_eq_getElem hcl]; exact List.drop_eq_getElem_cons hcl
                  have hzs : z.size ≤ 4294967296 := HSZ.out z (by
                    rw [HPP.out, hz, List.getD_eq_getElem?_getD, List.getElem?_eq_getElem hcl]
                    exact List.mem_cons_of_mem _ (List.getElem_mem hcl))
                  have hst : fld k pr (j + 1) = (numI z).map fun n => (x, n, c + 1) := by
                    rw [hj1] at hfl ⊢
                    show (fld k pr 1).bind _ = _
                    rw [hfl.out]
                    show (if argsN k = 1 then some (x, y, c) else if pr.length ≤ c then none else (numI (pr.getD c noB)).map fun z => (x, z, c + 1)) = _
                    rw [if_neg ha]
                    rw [if_neg (by omega)]
                    rw [hz]
                  have hrd0 : Rd w1 A (Value.string z :: strs (pr.drop (c + 1))) := by have := hrd.out; rw [hdr] at this; exact this
                  have hdl : (strs (pr.drop (c + 1))).length + 1 = m := by rw [List.length_map, List.length_drop]; have hp := HPR.out; have hq := hmc.out; omega
                  obtain ⟨A2, hsl2, hA2⟩ := tailS hrd0 hdl hcm
                  have HA2 := Lib.hid (hA2 w1 hrd0)
                  obtain ⟨b, o, rfl, hc⟩ := (Rd.below hrd0 HBF.out).at (by simp)
                  have g0 : (wr.alloc (.cells #[.bool true, .pointer (some ⟨W1.heap.size, 2, none⟩)] 108)).cell? ⟨b, o, none⟩ = some (.string z) := hc 0 (by simp)
                  have v0 : (0 : Int) < (m : Int) := by omega
                  have v1 : ((m : Int) == 0) = false := by simp; omega
                  have HM1 : Hid ((m - 1) + (c + 1) + 1 = np) := Lib.hid (by have hq := hmc.out; omega)
                  have hcm2 : m - 1 ≤ cm - 1 := by omega
                  clear hz hdr hrd0 hdl hA2 hc hcl hkO hkS hrd jj
                  cases hn : numI z with
                  | none =>
                    have HNN := Lib.hid hn
                    have HF1 : Hid (fld k pr (j + 1) = none) := Lib.hid (by rw [hst, hn]; rfl)
                    have HR : Hid (opI (pieceB s spB) = none) := Lib.hid (by
                      rw [HK.out]
                      have : fld k pr 2 = none := by
                        have hf1 := HF1.out
                        rw [hj1] at hf1
                        exact hf1
                      rw [this]; rfl)
                    clear hj1 hj hst hn
                    go_wp2_with fail
                    refine (implParseNumber_any z _ (HL1.out.below HBF.out) hzs).mono ?_
                    rintro e w3 ⟨rfl, hb3⟩
                    rw [HNN.out]
                    simp only [Option.getD_none, Option.isSome_none]
                    have HB3 := Lib.hid (HBF.out.trans (hb3.mono HBF.out.size))
                    clear hb3
                    have kR6 := HKR.out.below HB3.out
                    have y0 := kR6.cell 0 rfl
                    have x0 := kR6.fz 0
                    have y1 := kR6.cell 1 rfl
                    have x1 := kR6.fz 1
                    have y2 := kR6.cell 2 rfl
                    have x2 := kR6.fz 2
                    have hBB := HB1.out.trans ((HB3.out).mono HB1.out.size)
                    clear kR6
                    go_wp2
                    refine bodyPost_ret (v := .tuple #[.agg #[.int .i64 0, .int .i64 0, .int .i64 0], .bool false]) (by simp [results, Tryz.results59, go_sem, y0, y1, y2]) rfl ⟨by rw [HR.out]; rfl, ?_⟩
                    exact (((hBB.setCell (Nat.le_refl _) _).setCell (Nat.le_refl _) _).setCell (Nat.le_refl _) _)
                  | some n =>
                    have HNN := Lib.hid hn
                    have HF1 : Hid (fld k pr (j + 1) = some (x, n, c + 1)) := Lib.hid (by rw [hst, hn]; rfl)
                    clear hj1 hj hst hn
                    go_wp2_with fail
                    refine (implParseNumber_any z _ (HL1.out.below HBF.out) hzs).mono ?_
                    rintro e w3 ⟨rfl, hb3⟩
                    rw [HNN.out]
                    simp only [Option.getD_some, Option.isSome_some]
                    have HB3 := Lib.hid (HBF.out.trans (hb3.mono HBF.out.size))
                    replace f1 := keepc hb3 f1
                    have hkO3 := HKO.out.below hb3
                    have o1 := hkO3.cell 2 rfl
                    have o2 := hkO3.fz 2
                    have HKO3 := Lib.hid hkO3
                    have HKS3 := Lib.hid (HKS.out.below hb3)
                    clear hb3 hkO3
                    go_wp2
                    go_roundw
                    case rel => exact ⟨j + 1, c + 1, m - 1, x, n, A2, cm - 1, by omega, by go_num, rfl, HM1, hcm2, HF1, HA2, Lib.hid (HKO3.out.set 2 (.int .i64 n)), Lib.hid (HKS3.out.other _ _ (by simp)), Lib.hid (HB3.out.setCell hWW _)⟩
                    case measure => simp [intOf]; omega
            · obtain rfl : j = 2 := by omega
              by_cases hm0 : m = 0
              · have HR : Hid (opI (pieceB s spB) = some ⟨k, x, y⟩) := Lib.hid (by
                  have hp := HPR.out
                  have hq := hmc.out
                  rw [HK.out, hfl.out]
                  show (if c < pr.length then none else some _) = _
                  rw [if_neg (by omega)])
                have HMC := Lib.hid hmc.out
                subst hm0
                have o0 := hkO.out.cell 0 rfl
                have o1 := hkO.out.cell 1 rfl
                have o2 := hkO.out.cell 2 rfl
                have kR6 := HKR.out.below hbj.out
                have y0 := kR6.cell 0 rfl
                have x0 := kR6.fz 0
                have y1 := kR6.cell 1 rfl
                have x1 := kR6.fz 1
                have y2 := kR6.cell 2 rfl
                have x2 := kR6.fz 2
                have hBB := HB1.out.trans (hbj.out.mono HB1.out.size)
                clear kR6 hmc hj hj1
                go_wp2
                refine bodyPost_ret (v := .tuple #[.agg #[.int .i64 k, .int .i64 x, .int .i64 y], .bool true]) (by simp [results, Tryz.results59, go_sem, y0, y1, y2]) rfl ⟨by rw [HR.out]; rfl, ?_⟩
                exact (((hBB.setCell (Nat.le_refl _) _).setCell (Nat.le_refl _) _).setCell (Nat.le_refl _) _)
              · have HR : Hid (opI (pieceB s spB) = none) := Lib.hid (by
                  have hp := HPR.out
                  have hq := hmc.out
                  rw [HK.out, hfl.out]
                  show (if c < pr.length then none else some _) = _
                  rw [if_pos (by omega)])
                have e0 : (0 : Int) < (m : Int) := by omega
                have e1 : 0 < m := by omega
                clear hmc hj hj1
                have kR6 := HKR.out.below hbj.out
                have y0 := kR6.cell 0 rfl
                have x0 := kR6.fz 0
                have y1 := kR6.cell 1 rfl
                have x1 := kR6.fz 1
                have y2 := kR6.cell 2 rfl
                have x2 := kR6.fz 2
                have hBB := HB1.out.trans ((hbj.out).mono HB1.out.size)
                clear kR6
                go_wp2
                refine bodyPost_ret (v := .tuple #[.agg #[.int .i64 0, .int .i64 0, .int .i64 0], .bool false]) (by simp [results, Tryz.results59, go_sem, y0, y1, y2]) rfl ⟨by rw [HR.out]; rfl, ?_⟩
                exact (((hBB.setCell (Nat.le_refl _) _).setCell (Nat.le_refl _) _).setCell (Nat.le_refl _) _)
      · have HNX : Hid (kindOf p0 k = none) := Lib.hid (by rw [hnx, if_neg hq])
        have q1 : ¬ Wd.toList = p0.toList := fun h => hq (toList_inj h)
        have q0 : (Wd.toList == p0.toList) = false := by simpa using q1
        clear hnx hq q1 HB12
        go_wp2
        go_quiet (fail)
        go_wp2
        go_roundw
        case rel => exact ⟨k + 1, by omega, by omega, by go_num, HNX, Lib.hid (HBE.out.trans ((below_drewN' _ _).mono HBE.out.size))⟩
        case measure => simp [intOf]; omega
    · obtain rfl : k = 11 := by omega
      have HR : Hid (opI (pieceB s spB) = none) := Lib.hid (by rw [HOP.out, hkn.out]; rfl)
      have kR6 := HKR.out.below hbk.out
      have y0 := kR6.cell 0 rfl
      have x0 := kR6.fz 0
      have y1 := kR6.cell 1 rfl
      have x1 := kR6.fz 1
      have y2 := kR6.cell 2 rfl
      have x2 := kR6.fz 2
      clear kR6 gw
      go_wp2
      refine bodyPost_ret (v := .tuple #[.agg #[.int .i64 0, .int .i64 0, .int .i64 0], .bool false]) (by simp [results, Tryz.results59, go_sem, y0, y1, y2]) rfl ⟨by rw [HR.out]; rfl, ?_⟩
      exact (((hB3.setCell (Nat.le_refl _) _).setCell (Nat.le_refl _) _).setCell (Nat.le_refl _) _)
end Go.Proofs.YthamndmfenpniaaGreatDoor
