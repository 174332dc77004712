/- The program's ParseProg. -/
import Derived.Test.YthamndmfenpniaaGreatDoorPKit
import Derived.BigQuiet
namespace Go.Proofs.YthamndmfenpniaaGreatDoor
open Go.RowKit

set_option maxRecDepth 100000 in
set_option maxHeartbeats 16000000 in
theorem implParseProg_any (s : ByteArray) (w : World) (hL : Laid2 w) (hs : s.size ≤ 1048576) :
    Calls Tryz.prog 7 #[.string s] w fun e w' => ∃ (v : PV) (vs : List Value), e = .returned (.tuple #[.agg #[.slice v.s v.ns v.cs, .slice v.g v.ng v.cg, .slice v.b v.nb v.cb, .slice v.r v.nr v.cr, .slice v.t v.nt v.ct], .bool (parseProg s).isSome]) ∧ OwnP w' v vs ((parseProg s).getD zeroPg).cells ∧ (fpP v vs).Nodup ∧ (∀ q ∈ fpP v vs, w.heap.size ≤ q) ∧ Small v ((parseProg s).getD zeroPg) ∧ Below w.heap.size w w' := by
  have B0 : Below w.heap.size w ((w.alloc (.cells #[.slice none 0 0, .slice none 0 0, .slice none 0 0, .slice none 0 0, .slice none 0 0] 27)).alloc (.cells #[.slice none 0 0, .slice none 0 0, .slice none 0 0, .slice none 0 0, .slice none 0 0] 27)) := ((Below.refl _ _).alloc (Nat.le_refl _) _).alloc (by simp) _
  have kR : Blk ((w.alloc (.cells #[.slice none 0 0, .slice none 0 0, .slice none 0 0, .slice none 0 0, .slice none 0 0] 27)).alloc (.cells #[.slice none 0 0, .slice none 0 0, .slice none 0 0, .slice none 0 0, .slice none 0 0] 27)) w.heap.size #[.slice none 0 0, .slice none 0 0, .slice none 0 0, .slice none 0 0, .slice none 0 0] 27 := (Blk.new _ _ _).alloc _
  have kG : Blk ((w.alloc (.cells #[.slice none 0 0, .slice none 0 0, .slice none 0 0, .slice none 0 0, .slice none 0 0] 27)).alloc (.cells #[.slice none 0 0, .slice none 0 0, .slice none 0 0, .slice none 0 0, .slice none 0 0] 27)) (w.heap.size + 1) #[.slice none 0 0, .slice none 0 0, .slice none 0 0, .slice none 0 0, .slice none 0 0] 27 := by have := Blk.new (w.alloc (.cells #[.slice none 0 0, .slice none 0 0, .slice none 0 0, .slice none 0 0, .slice none 0 0] 27)) #[.slice none 0 0, .slice none 0 0, .slice none 0 0, .slice none 0 0, .slice none 0 0] 27; simpa using this
  have hs0 : ((w.alloc (.cells #[.slice none 0 0, .slice none 0 0, .slice none 0 0, .slice none 0 0, .slice none 0 0] 27)).alloc (.cells #[.slice none 0 0, .slice none 0 0, .slice none 0 0, .slice none 0 0, .slice none 0 0] 27)).heap.size = w.heap.size + 2 := by simp
  obtain ⟨m, hm⟩ := (hL.below B0).len
  have HL := Lib.hid hL
  have HPO : Hid (parseProg s = progI s) := Lib.hid (progI_is s).symm
  clear hL
  go_enter Tryz.func7, Tryz.ntmps7
  go_wp2_with fail
  refine (Tryz.strings_CutSuffix s ⟨#[10]⟩ _ (by omega)).mono ?_
  rintro e w0 ⟨rfl, hw⟩
  subst hw
  have hsf : Lib.hasSuffix s.data.toList (⟨#[10]⟩ : ByteArray).data.toList = decide (1 ≤ s.size ∧ s.extract (s.size - 1) s.size = nlB) := suffix_nl s
  have htr : (⟨(Lib.trimSuffix s.data.toList (⟨#[10]⟩ : ByteArray).data.toList).toArray⟩ : ByteArray) = if 1 ≤ s.size ∧ s.extract (s.size - 1) s.size = nlB then s.extract 0 (s.size - 1) else s := trim_nl s
  rw [hsf, htr]
  clear hsf htr
  by_cases hc : 1 ≤ s.size ∧ s.extract (s.size - 1) s.size = nlB
  · rw [decide_eq_true hc, if_pos hc]
    obtain ⟨R, hR⟩ : ∃ R, R = s.extract 0 (s.size - 1) := ⟨_, rfl⟩
    have hRs : R.size ≤ 1048575 := by rw [hR, ByteArray.size_extract]; omega
    obtain ⟨lines, hpt⟩ : ∃ lines, lines = pieceB R nlB := ⟨_, rfl⟩
    have HTI : Hid (parseProg s = (linesI lines zeroPg).bind fun p => if progValid p = true then if fmtProg p = s then some p else none else none) := Lib.hid (by
      rw [HPO.out]
      unfold progI readI
      rw [if_pos hc, ← hR, ← hpt])
    rw [← hR]
    clear hc hR HPO
    go_wp2_with fail
    refine (Tryz.strings_Split R ⟨#[10]⟩ m _ (by omega) hm (by decide)).mono ?_
    rintro e wA ⟨rfl, hw1⟩
    have hlen : Lib.countB R ⟨#[10]⟩ + 1 = lines.length := by rw [hpt]; exact (piece_len (s := R) (sep := nlB) (by decide)).symm
    have hw2 : wA = ((w.alloc (.cells #[.slice none 0 0, .slice none 0 0, .slice none 0 0, .slice none 0 0, .slice none 0 0] 27)).alloc (.cells #[.slice none 0 0, .slice none 0 0, .slice none 0 0, .slice none 0 0, .slice none 0 0] 27)).alloc (.cells (lines.map Value.string).toArray 9) := by rw [hpt]; exact hw1
    obtain ⟨P, hP⟩ : ∃ P, P = ((w.alloc (.cells #[.slice none 0 0, .slice none 0 0, .slice none 0 0, .slice none 0 0, .slice none 0 0] 27)).alloc (.cells #[.slice none 0 0, .slice none 0 0, .slice none 0 0, .slice none 0 0, .slice none 0 0] 27)).heap.size := ⟨_, rfl⟩
    have kP : Blk wA P (lines.map Value.string).toArray 9 := by rw [hw2, hP]; exact Blk.new _ _ _
    have hb1 : Below ((w.alloc (.cells #[.slice none 0 0, .slice none 0 0, .slice none 0 0, .slice none 0 0, .slice none 0 0] 27)).alloc (.cells #[.slice none 0 0, .slice none 0 0, .slice none 0 0, .slice none 0 0, .slice none 0 0] 27)).heap.size ((w.alloc (.cells #[.slice none 0 0, .slice none 0 0, .slice none 0 0, .slice none 0 0, .slice none 0 0] 27)).alloc (.cells #[.slice none 0 0, .slice none 0 0, .slice none 0 0, .slice none 0 0, .slice none 0 0] 27)) wA := by rw [hw2]; exact (Below.refl _ _).alloc (Nat.le_refl _) _
    have hmax : lines.length ≤ 1048576 := by have := piece_count (s := R) (sep := nlB) (by decide); rw [← hpt] at this; omega
    have HSZ : Hid (∀ x ∈ lines, x.size ≤ 1048575) := Lib.hid (fun x hx => by rw [hpt] at hx; have := piece_size hx; omega)
    rw [hlen, ← hP]
    have HKP := Lib.hid kP
    have hP2 : P = w.heap.size + 2 := by rw [hP, hs0]
    have HP2 := Lib.hid hP2
    have HB1 := Lib.hid (B0.trans (hb1.mono B0.size))
    have HKR := Lib.hid (kR.below hb1)
    have HS1 : Hid (wA.heap.size = w.heap.size + 3) := Lib.hid (by rw [hw2]; simp)
    have HC0 : Hid (CopyAt wA wA.heap.size (w.heap.size + 1) ⟨none, 0, 0, none, 0, 0, none, 0, 0, none, 0, 0, none, 0, 0⟩ [] zeroPg 0) := Lib.hid (CopyAt.zero _ _ _ (kG.below hb1))
    have HRS : Hid (∀ i q, linesI (lines.take i) zeroPg = some q → Most q 1048576 ∧ q.threads.length ≤ 1048576 ∧ ∀ k, (q.threads.getD k []).length ≤ 1048576) := Lib.hid (fun i q h => read_small hRs (by rw [← hpt]; exact h))
    have HBB : Hid (∀ W, Touch [w.heap.size + 1] wA W → Below w.heap.size w W ∧ Blk W w.heap.size #[.slice none 0 0, .slice none 0 0, .slice none 0 0, .slice none 0 0, .slice none 0 0] 27 ∧ Blk W P (lines.map Value.string).toArray 9 ∧ wA.heap.size ≤ W.heap.size) := Lib.hid (fun W ht => ⟨HB1.out.trans (ht.below HB1.out.size (fun k hk => by simp at hk; omega)), ht.blk HKR.out (by simp), ht.blk HKP.out (by rw [HP2.out]; simp), ht.size⟩)
    clear hw1 hw2 hb1 B0 kR kG kP hm hP hlen hs0 hpt hRs hP2
    obtain ⟨np, hnp⟩ : ∃ np, np = lines.length := ⟨_, rfl⟩
    rw [← hnp] at hmax ⊢
    have HNP := Lib.hid hnp
    clear hnp
    go_wp2
    go_loopw [30] (fun vi wr => ∃ (i : Nat) (v : PV) (vs : List Value) (q : Pg), i ≤ np ∧ vi = .int .i64 i ∧ Hid (linesI (lines.take i) zeroPg = some q) ∧ Hid (CopyAt wr wA.heap.size (w.heap.size + 1) v vs q q.threads.length) ∧ Hid (FourF v) ∧ Hid (Touch [w.heap.size + 1] wA wr)) (fun vi _ => np - (intOf vi).toNat)
    case atStart => exact ⟨0, ⟨none, 0, 0, none, 0, 0, none, 0, 0, none, 0, 0, none, 0, 0⟩, [], zeroPg, by omega, rfl, Lib.hid rfl, HC0, Lib.hid FourF.none, Lib.hid (Touch.refl _ _)⟩
    case round =>
      obtain ⟨i, v, vs, q, hinp, rfl, hnum, HC, HF, HT⟩ := hrel
      by_cases hlt : i < np
      · have i1 : (i : Int) < (np : Int) := by omega
        have i0 : (0 : Int) ≤ (i : Int) := by omega
        have hilt : i < lines.length := by rw [← HNP.out]; exact hlt
        obtain ⟨x, hx⟩ : ∃ x, x = lines.getD i noB := ⟨_, rfl⟩
        have hxe : lines[i]? = some x := by rw [hx, List.getD_eq_getElem?_getD, List.getElem?_eq_getElem hilt]; rfl
        have g1 : wr.cell? ⟨P, i, none⟩ = some (.string x) := (HBB.out wr HT.out).2.2.1.cell i (by simp [hxe])
        have hxs : x.size ≤ 1048575 := HSZ.out x (List.mem_of_getElem? hxe)
        have HST : Hid (linesI (lines.take (i + 1)) zeroPg = lineI q x) := Lib.hid (by rw [hx]; exact linesI_next hilt hnum.out)
        have hnt : v.nt ≤ 1048576 := by
          have h1 := HC.out.ot.1
          have h2 := HC.out.inn.len
          have h3 := (HRS.out _ _ hnum.out).2.1
          simp only [List.length_map, List.take_length] at h2
          omega
        clear hx hxe hilt
        obtain ⟨wo, rfl⟩ : ∃ x, x = wr := ⟨_, rfl⟩
        go_wp2_with fail
        refine (implParseThread_any x _ (HL.out.below (HBB.out wo HT.out).1) (by omega)).mono ?_
        rintro e w3 ⟨a5, n5, c5, rfl, h5, b5⟩
        have HB5 := Lib.hid b5
        have HC3 := Lib.hid (HC.out.below b5)
        have HT3 := Lib.hid (HT.out.trans (Touch.of_below b5))
        have hs3 := b5.size
        clear g1 b5
        cases ht5 : thrI x with
        | some t =>
          have HO := Lib.hid (h5 t ht5).2
          have HST2 : Hid (linesI (lines.take (i + 1)) zeroPg = some { q with threads := q.threads ++ [t] }) := Lib.hid (by rw [HST.out]; unfold lineI; rw [ht5])
          have HFR : Hid (∀ k, rowOf a5 = some k → wA.heap.size ≤ k ∧ k ∉ fpV vs) := Lib.hid (fun k hk => by
            have h1 := (owns_row HO.out k hk).1
            exact ⟨by have := (HBB.out wo HT.out).2.2.2; omega, fun hm => by have h2 := HC.out.inn.lt k hm; omega⟩)
          clear h5 ht5
          have e4 := HC3.out.blk.cell 4 rfl
          have hot := HC3.out.ot
          have hB6 : wA.heap.size ≤ w3.heap.size := by have := (HBB.out wo HT.out).2.2.2; omega
          have HB6 := Lib.hid hB6
          go_wp2_with (at_builtin; refine wpList_append_sl (news := [.slice a5 n5 c5]) rfl (.tmp 41) (.tmp 43) 25 rfl Tryz.underlying25 info_ops rfl (by decide) rfl hot rfl rfl rfl (by simp [Value.oneCell']) (by omega) (by decide) hB6 ?_; intro a6 c6 w7 hown7 hgr7; have hy4 := (HC3.out.blk.grown hgr7 (blk_owns HC3.out.blk hot types_ne.2.2.2.1)).fz 4; have hx4 := (HC3.out.blk.grown hgr7 (blk_owns HC3.out.blk hot types_ne.2.2.2.1)).cell 4 rfl)
          go_roundw
          case rel =>
            refine ⟨i + 1, v.thr a6 (v.nt + 1) c6, vs ++ [.slice a5 n5 c5], { q with threads := q.threads ++ [t] }, by omega, by go_num, HST2, Lib.hid (HC3.out.more (owns_mono HO.out (Nat.zero_le _)) HFR.out hown7 hgr7), Lib.hid (HF.out.thr _ _ _), Lib.hid ?_⟩
            exact Touch.set (HT3.out.more (Touch.of_grown (S := (rowOf v.t).toList) hgr7 (fun k hk => by simpa using hk)) (fun k hk => (owns_row hot k (by simpa using hk)).1)) (by simp)
          case measure => simp [intOf]; omega
        | none =>
          have HTN : Hid (thrI x = none) := Lib.hid ht5
          clear h5 ht5
          obtain ⟨m, hm⟩ := (HL.out.below (HBB.out w3 HT3.out).1).len
          go_wp2_with fail
          refine (Tryz.strings_Split x ⟨#[32]⟩ m _ (by omega) hm (by decide)).mono ?_
          rintro e w4 ⟨rfl, hw4⟩
          obtain ⟨words, hpw⟩ : ∃ words, words = pieceB x spB := ⟨_, rfl⟩
          have hlw : Lib.countB x ⟨#[32]⟩ + 1 = words.length := by rw [hpw]; exact (piece_len (s := x) (sep := spB) (by decide)).symm
          have hw5 : w4 = w3.alloc (.cells (words.map Value.string).toArray 9) := by rw [hpw]; exact hw4
          have kW : Blk w4 w3.heap.size (words.map Value.string).toArray 9 := by rw [hw5]; exact Blk.new _ _ _
          have b6 : Below w3.heap.size w3 w4 := by rw [hw5]; exact (Below.refl _ _).alloc (Nat.le_refl _) _
          have hwpos : 1 ≤ words.length := by omega
          have hwmax : words.length ≤ 1048576 := by have := piece_count (s := x) (sep := spB) (by decide); rw [← hpw] at this; omega
          have HWZ : Hid (∀ z ∈ words, z.size ≤ 4294967296) := Lib.hid (fun z hz => by rw [hpw] at hz; have := piece_size hz; omega)
          have HLI : Hid (linesI (lines.take (i + 1)) zeroPg = (lineTo q (words.getD 0 noB) words.tail 4).bind fun st => if st.2 = true then some st.1 else none) := Lib.hid (by rw [HST.out, lineI_to HTN.out, hpw])
          rw [hlw]
          obtain ⟨P2, hP2⟩ : ∃ P2, P2 = w3.heap.size := ⟨_, rfl⟩
          rw [← hP2] at kW ⊢
          have HC4 := Lib.hid (HC3.out.below b6)
          have HT4 := Lib.hid (HT3.out.trans (Touch.of_below b6))
          have HKW := Lib.hid kW
          clear hw4 hw5 hlw hpw hm kW b6 hP2 HST
          obtain ⟨nw, hnw⟩ : ∃ nw, nw = words.length := ⟨_, rfl⟩
          rw [← hnw] at hwpos hwmax ⊢
          obtain ⟨p0, nums, hwords⟩ : ∃ p0 nums, words = p0 :: nums := by
            cases words with
            | nil => rw [List.length_nil] at hnw; omega
            | cons a l => exact ⟨a, l, rfl⟩
          have HLI2 : Hid (linesI (lines.take (i + 1)) zeroPg = (lineTo q p0 nums 4).bind fun st => if st.2 = true then some st.1 else none) := Lib.hid (by rw [HLI.out, hwords]; rfl)
          have HWD := Lib.hid hwords
          have HNW : Hid (nums.length + 1 = nw) := Lib.hid (by rw [hnw, hwords]; rfl)
          clear hnw hwords HLI
          go_wp2_with fail
          refine (things_any (w.heap.size + 1) w4).mono ?_
          rintro e w5 ⟨tg, rfl, hkg, hgs, b7⟩
          have HKG := Lib.hid hkg
          have HKW5 := Lib.hid (HKW.out.below b7)
          have HC5 := Lib.hid (HC4.out.below b7)
          have HT5 := Lib.hid (HT4.out.trans (Touch.of_below b7))
          have HM0 : Hid (Most q 4194304) := Lib.hid ((HRS.out _ _ hnum.out).1.mono (by omega))
          clear hkg hgs b7
          go_wp2
          go_loopw [12, 50] (fun vk vj wj => ∃ (k : Nat) (v1 : PV) (q1 : Pg) (kn : Bool), k ≤ 4 ∧ vj = .int .i64 k ∧ vk = .bool kn ∧ Hid (lineTo q p0 nums k = some (q1, kn)) ∧ Hid (Most q1 (4194304 * (k + 1))) ∧ Hid (CopyAt wj wA.heap.size (w.heap.size + 1) v1 vs q1 q.threads.length) ∧ Hid (FourF v1) ∧ Hid (Touch [w.heap.size + 1] wA wj) ∧ Hid (Blk wj P2 (words.map Value.string).toArray 9) ∧ Hid (Blk wj tg (thingCells (w.heap.size + 1)) 52)) (fun _ vj _ => 4 - (intOf vj).toNat)
          case atStart => exact ⟨0, v, q, false, by omega, rfl, rfl, Lib.hid rfl, Lib.hid (by have := HM0.out; simpa using this), HC5, HF, HT5, HKW5, HKG⟩
          case round =>
            obtain ⟨k, v1, q1, kn, hk4, rfl, rfl, hln, HM, HCk, HFk, HTk, hkw, hkg⟩ := hrel
            by_cases hk : k < 4
            · have k1 : (k : Int) < 4 := by omega
              have k0 : (0 : Int) ≤ (k : Int) := by omega
              obtain ⟨t1, t2⟩ := thing_cells hkg.out k hk
              obtain ⟨Wd, hWd⟩ : ∃ Wd, Wd = wordT k := ⟨_, rfl⟩
              rw [← hWd] at t1
              have hstep : lineTo q p0 nums (k + 1) = if Wd = p0 then (numsI nums).map fun l => (putL q1 k (lstT q1 k ++ l), true) else some (q1, kn) := by
                show (lineTo q p0 nums k).bind (fun st => if wordT k = p0 then (numsI nums).map fun l => (putL st.1 k (lstT st.1 k ++ l), true) else some st) = _
                rw [hln.out, hWd]
                rfl
              have hbX : Below wr.heap.size wr (wr.alloc (.cells #[.string Wd, .pointer (some ⟨w.heap.size + 1, k, none⟩)] 52)) := (Below.refl _ _).alloc (Nat.le_refl _) _
              have kX : Blk (wr.alloc (.cells #[.string Wd, .pointer (some ⟨w.heap.size + 1, k, none⟩)] 52)) wr.heap.size #[.string Wd, .pointer (some ⟨w.heap.size + 1, k, none⟩)] 52 := Blk.new _ _ _
              have d0 := kX.cell 0 rfl
              have j1 : (0 : Int) < (nw : Int) := by omega
              have j2 : ¬ nw = 0 := by omega
              have gp := (hkw.out.below hbX).cell 0 (v := .string p0) (by rw [HWD.out]; rfl)
              have HKX := Lib.hid kX
              have HBX := Lib.hid hbX
              clear hWd kX hbX
              by_cases hq : Wd = p0
              · have HSTEP : Hid (lineTo q p0 nums (k + 1) = (numsI nums).map fun l => (putL q1 k (lstT q1 k ++ l), true)) := Lib.hid (by rw [hstep, if_pos hq])
                have q0 : (Wd.toList == p0.toList) = true := by rw [hq]; simp
                clear hq hstep
                obtain ⟨wo2, rfl⟩ : ∃ x, x = wr := ⟨_, rfl⟩
                obtain ⟨A1, hsl, hA1⟩ := tailS (n := nw) (c := nw) (x := .string p0) (xs := strs nums) (show Rd wo2 (some ⟨P2, 0, none⟩) (strs (p0 :: nums)) by have := Rd.of_blk hkw.out; rw [HWD.out] at this; simpa using this) (by rw [List.length_map]; exact HNW.out) (Nat.le_refl _)
                have HA1 : Hid (∀ W, Blk W P2 (words.map Value.string).toArray 9 → Rd W A1 (strs nums)) := Lib.hid (fun W hb => hA1 W (by have := Rd.of_blk hb; rw [HWD.out] at this; simpa using this))
                clear hA1
                go_wp2
                go_quiet (fail)
                obtain ⟨W1, hW1⟩ : ∃ W1 : World, W1 = (wo2.alloc (.cells #[.string Wd, .pointer (some ⟨w.heap.size + 1, k, none⟩)] 52)).drewN nq := ⟨_, rfl⟩
                have hd : Below (wo2.alloc (.cells #[.string Wd, .pointer (some ⟨w.heap.size + 1, k, none⟩)] 52)).heap.size (wo2.alloc (.cells #[.string Wd, .pointer (some ⟨w.heap.size + 1, k, none⟩)] 52)) W1 := by rw [hW1]; exact below_drewN' _ _
                rw [← hW1]
                have hd2 := HBX.out.trans (hd.mono HBX.out.size)
                have HX1 := Lib.hid (HKX.out.below hd)
                have HCW := Lib.hid (HCk.out.below hd2)
                have HTW := Lib.hid (HTk.out.trans (Touch.of_below hd2))
                have HKWW := Lib.hid (hkw.out.below hd2)
                have HKGW := Lib.hid (hkg.out.below hd2)
                clear hW1 hd hd2 d0 gp t1 t2 q0
                go_wp2
                go_loopw [63] (fun vj wj => ∃ (j : Nat) (v2 : PV) (l : List Int), j ≤ nw - 1 ∧ vj = .int .i64 j ∧ Hid (numsI (nums.take j) = some l) ∧ Hid (CopyAt wj wA.heap.size (w.heap.size + 1) v2 vs (putL q1 k (lstT q1 k ++ l)) q.threads.length) ∧ Hid (FourF v2) ∧ Hid (Touch [w.heap.size + 1] wA wj) ∧ Hid (Blk wj P2 (words.map Value.string).toArray 9) ∧ Hid (Blk wj tg (thingCells (w.heap.size + 1)) 52) ∧ Hid (Blk wj wo2.heap.size #[.string Wd, .pointer (some ⟨w.heap.size + 1, k, none⟩)] 52)) (fun vj _ => nw - 1 - (intOf vj).toNat)
                case atStart => exact ⟨0, v1, [], by omega, rfl, Lib.hid rfl, Lib.hid (by rw [List.append_nil, putL_same]; exact HCW.out), HFk, HTW, HKWW, HKGW, HX1⟩
                case round =>
                  obtain ⟨j, v2, l, hjn, rfl, hnj, HCj, HFj, HTj, hkwj, hkgj, hkxj⟩ := hrel
                  by_cases hj : j < nw - 1
                  · have j3 : (j : Int) < ((nw - 1 : Nat) : Int) := by omega
                    have j4 : (0 : Int) ≤ (j : Int) := by omega
                    have hjl : j < nums.length := by have := HNW.out; omega
                    have hll : l.length = j := by have := numsI_len hnj.out; rw [this, List.length_take]; exact Nat.min_eq_left (Nat.le_of_lt hjl)
                    obtain ⟨z, hz⟩ : ∃ z, z = nums.getD j noB := ⟨_, rfl⟩
                    obtain ⟨b, o, rfl, hc⟩ := (HA1.out wr hkwj.out).at (by rw [List.length_map]; omega)
                    have g1 := hc j (by rw [List.length_map]; exact hjl)
                    have ex : (strs nums).getD j undef = .string z := by rw [hz]; simp [strs, List.getD, hjl]
                    have hzs : z.size ≤ 4294967296 := HWZ.out z (by
                      rw [HWD.out, hz, List.getD_eq_getElem?_getD, List.getElem?_eq_getElem hjl]
                      exact List.mem_cons_of_mem _ (List.getElem_mem hjl))
                    have hst : numsI (nums.take (j + 1)) = (numI z).map fun n => l ++ [n] := by rw [hz]; exact numsI_next hjl hnj.out
                    rw [ex] at g1
                    have HLL := Lib.hid hll
                    clear hc hz ex hjl hll
                    cases hn : numI z with
                    | none =>
                      have HNN := Lib.hid hn
                      have HR : Hid (parseProg s = none) := Lib.hid (by
                        have h9 : numsI nums = none := numsI_dead (i := j + 1) (by rw [hst, hn]; rfl)
                        have h8 : lineTo q p0 nums (k + 1) = none := by rw [HSTEP.out, h9]; rfl
                        rw [HTI.out, linesI_dead (i := i + 1) (by rw [HLI2.out, lineTo_dead h8 4 (by omega)]; rfl)]
                        rfl)
                      clear hst hn
                      go_wp2_with fail
                      refine (implParseNumber_any z _ (HL.out.below (HBB.out wr HTj.out).1) hzs).mono ?_
                      rintro e w6 ⟨rfl, b8⟩
                      rw [HNN.out]
                      simp only [Option.getD_none, Option.isSome_none]
                      have HZ := Lib.hid (HBB.out w6 (HTj.out.trans (Touch.of_below b8)))
                      clear b8
                      have kR2 := HZ.out.2.1
                      have y0 := kR2.cell 0 rfl
                      have x0 := kR2.fz 0
                      have y1 := kR2.cell 1 rfl
                      have x1 := kR2.fz 1
                      have y2 := kR2.cell 2 rfl
                      have x2 := kR2.fz 2
                      have y3 := kR2.cell 3 rfl
                      have x3 := kR2.fz 3
                      have y4 := kR2.cell 4 rfl
                      have x4 := kR2.fz 4
                      have HBE := Lib.hid (HZ.out.1)
                      clear kR2
                      go_wp2
                      refine bodyPost_ret (v := .tuple #[.agg #[.slice none 0 0, .slice none 0 0, .slice none 0 0, .slice none 0 0, .slice none 0 0], .bool false]) (by simp [results, Tryz.results7, go_sem, y0, y1, y2, y3, y4]) rfl ⟨⟨none, 0, 0, none, 0, 0, none, 0, 0, none, 0, 0, none, 0, 0⟩, [], by rw [HR.out]; rfl, by rw [HR.out]; exact OwnP.zero _, by simp [fpP, fpT, rowOf], fun q hq => by simp [fpP, fpT, rowOf] at hq, by rw [HR.out]; exact Small.zero, ?_⟩
                      exact ((((HBE.out.setCell (Nat.le_refl _) _).setCell (Nat.le_refl _) _).setCell (Nat.le_refl _) _).setCell (Nat.le_refl _) _).setCell (Nat.le_refl _) _
                    | some n =>
                      have HNN := Lib.hid hn
                      have HNJ : Hid (numsI (nums.take (j + 1)) = some (l ++ [n])) := Lib.hid (by rw [hst, hn]; rfl)
                      clear hst hn
                      go_wp2_with fail
                      refine (implParseNumber_any z _ (HL.out.below (HBB.out wr HTj.out).1) hzs).mono ?_
                      rintro e w6 ⟨rfl, b8⟩
                      rw [HNN.out]
                      simp only [Option.getD_some, Option.isSome_some]
                      have HC6 := Lib.hid (HCj.out.below b8)
                      have HT6 := Lib.hid (HTj.out.trans (Touch.of_below b8))
                      have HKW6 := Lib.hid (hkwj.out.below b8)
                      have HKG6 := Lib.hid (hkgj.out.below b8)
                      have HKX6 := Lib.hid (hkxj.out.below b8)
                      have hAW : wA.heap.size ≤ w6.heap.size := HT6.out.size
                      obtain ⟨a2, n2, c2, e2, cG, own2⟩ : ∃ a n c, (a = v2.fa k ∧ n = v2.fn k ∧ c = v2.fc k) ∧ w6.cell? ⟨w.heap.size + 1, k, none⟩ = some (.slice a n c) ∧ w6.ownsRow wA.heap.size 3 1 (.slice a n c) n (ints (lstT q1 k ++ l)) := by
                        have h9 := HC6.out.fld k hk
                        rw [lstT_putL] at h9
                        exact ⟨_, _, _, ⟨rfl, rfl, rfl⟩, h9.1, h9.2⟩
                      have HE2 := Lib.hid e2
                      have hn2 : n2 ≤ 33554432 := by
                        have h9 := own2.1
                        have h8 := HM.out.lst k
                        have h7 := HLL.out
                        simp only [ints, List.length_map, List.length_append] at h9
                        omega
                      have cX1 := HKX6.out.cell 1 rfl
                      have hGS : w.heap.size + 1 ∉ (rowOf a2).toList := fun e => blk_owns HC6.out.blk own2 types_ne.2.2.1 (by simpa using e)
                      have hXS : wo2.heap.size ∉ (rowOf a2).toList := fun e => blk_owns HKX6.out own2 (by decide) (by simpa using e)
                      have hPS : P2 ∉ (rowOf a2).toList := fun e => blk_owns HKW6.out own2 (by decide) (by simpa using e)
                      have hTS : tg ∉ (rowOf a2).toList := fun e => blk_owns HKG6.out own2 (by decide) (by simpa using e)
                      have hSlt : ∀ q ∈ (rowOf a2).toList, q < w6.heap.size := fun q hq => (owns_row own2 q (by simpa using hq)).2
                      have hSlo : ∀ q ∈ (rowOf a2).toList, wA.heap.size ≤ q := fun q hq => (owns_row own2 q (by simpa using hq)).1
                      have HOW := Lib.hid own2
                      have HSLO := Lib.hid hSlo
                      have hPG : P2 ≠ w.heap.size + 1 := fun e => by have h9 := HC6.out.blk; rw [← e] at h9; have h8 := HKW6.out; unfold Blk at h8 h9; rw [h8] at h9; simp at h9
                      have hTG : tg ≠ w.heap.size + 1 := fun e => by have h9 := HC6.out.blk; rw [← e] at h9; have h8 := HKG6.out; unfold Blk at h8 h9; rw [h8] at h9; simp at h9
                      have hXG : wo2.heap.size ≠ w.heap.size + 1 := fun e => by have h9 := HC6.out.blk; rw [← e] at h9; have h8 := HKX6.out; unfold Blk at h8 h9; rw [h8] at h9; simp at h9
                      have HNE := Lib.hid (And.intro hPG (And.intro hTG hXG))
                      clear b8 own2 e2 hSlo g1 hPG hTG hXG
                      go_wp2_with fail
                      refine wp_region_steps 10 (by kernel_rfl) (by kernel_rfl) [fun dz uz wz => uz = .pointer (some ⟨wo2.heap.size, 1, none⟩), fun dz uz wz => uz = .pointer (some ⟨w.heap.size + 1, k, none⟩), fun dz uz wz => uz = .pointer (some ⟨wo2.heap.size, 1, none⟩), fun dz uz wz => uz = .pointer (some ⟨w.heap.size + 1, k, none⟩), fun dz uz wz => uz = .pointer (some ⟨w.heap.size + 1, k, none⟩), fun dz uz wz => uz = .slice a2 n2 c2, fun dz uz wz => uz = .int .i64 n, fun dz uz wz => (∃ gz : Nat, uz = .slice (some ⟨gz, 0, none⟩) 1 1 ∧ Blk wz gz #[.int .i64 n] 3 ∧ w6.heap.size ≤ gz), fun dz uz wz => (∃ (a' : Option Addr) (c' : Nat), uz = .slice a' (n2 + 1) c' ∧ wz.ownsRow wA.heap.size 3 1 (.slice a' (n2 + 1) c') (n2 + 1) (ints (lstT q1 k ++ l) ++ [.int .i64 n]) ∧ ∀ q, rowOf a' = some q → rowOf a2 = some q ∨ w6.heap.size ≤ q), fun dz uz wz => uz = .pointer (some ⟨w.heap.size + 1, k, none⟩)] (St1 8 (Touch (rowOf a2).toList)) (fun _ _ => none) (Stage 8 (rowOf a2).toList w6) (Stage.start _ _ _) (st1_size (fun _ _ h => h.size)) (stab1_of ⟨fun _ _ _ _ _ h => h, fun _ _ _ _ _ h => h, fun _ _ _ _ _ h => h, fun _ _ _ _ _ h => h, fun _ _ _ _ _ h => h, fun _ _ _ _ _ h => h, fun _ _ _ _ _ h => h, fun _ _ _ _ hb ⟨g, e, h, hs⟩ => ⟨g, e, h.below hb, hs⟩, fun _ _ _ _ hb ⟨a, c, e, h, hn⟩ => ⟨a, c, e, owns_below h hb, hn⟩, fun _ _ _ _ _ h => h, trivial⟩ ⟨.inr (fun _ _ _ _ _ h => h), .inr (fun _ _ _ _ _ h => h), .inr (fun _ _ _ _ _ h => h), .inr (fun _ _ _ _ _ h => h), .inr (fun _ _ _ _ _ h => h), .inr (fun _ _ _ _ _ h => h), .inr (fun _ _ _ _ _ h => h), .inr (fun _ _ _ _ hT ⟨g, e, h, hs⟩ => ⟨g, e, hT.blk h (fun hm => by have := hSlt _ hm; omega), hs⟩), .inl rfl, .inr (fun _ _ _ _ _ h => h), trivial⟩) ?_ ?_
                      · simp only [List.take_succ_cons, List.take_zero]
                        refine ⟨?_, ?_, ?_, ?_, ?_, ?_, ?_, ?_, ?_, ?_, trivial⟩
                        · intro ρ w1 L hG hny hfr hd
                          have fc : ∀ z, ρ (.const z) = z := fun _ => hfr _ rfl
                          have ff : ∀ z, ρ (.func z) = .func (.func z) #[] #[] := fun _ => hfr _ rfl
                          have f14 : ρ (.tmp 14) = .pointer (some ⟨wo2.heap.size, 0, none⟩) := hfr _ rfl
                          refine gives_val (u := .pointer (some ⟨wo2.heap.size, 1, none⟩)) (w' := w1) (by go_simp) ⟨st1_below (by decide) (Below.refl _ _), rfl, (fun _ hk => by cases hk), hG.step (by decide) (Below.refl _ _)⟩
                        · intro ρ w1 L hG hny hfr hd
                          have fc : ∀ z, ρ (.const z) = z := fun _ => hfr _ rfl
                          have ff : ∀ z, ρ (.func z) = .func (.func z) #[] #[] := fun _ => hfr _ rfl
                          obtain ⟨d0, -⟩ := hd
                          have d0 : (ρ (.tmp 75)) = .pointer (some ⟨wo2.heap.size, 1, none⟩) := d0
                          have cX1 := cell_touch hG.2 cX1 (hXS)
                          refine gives_val (u := .pointer (some ⟨w.heap.size + 1, k, none⟩)) (w' := w1) (by go_simp) ⟨st1_below (by decide) (Below.refl _ _), rfl, (fun _ hk => by cases hk), hG.step (by decide) (Below.refl _ _)⟩
                        · intro ρ w1 L hG hny hfr hd
                          have fc : ∀ z, ρ (.const z) = z := fun _ => hfr _ rfl
                          have ff : ∀ z, ρ (.func z) = .func (.func z) #[] #[] := fun _ => hfr _ rfl
                          have f14 : ρ (.tmp 14) = .pointer (some ⟨wo2.heap.size, 0, none⟩) := hfr _ rfl
                          refine gives_val (u := .pointer (some ⟨wo2.heap.size, 1, none⟩)) (w' := w1) (by go_simp) ⟨st1_below (by decide) (Below.refl _ _), rfl, (fun _ hk => by cases hk), hG.step (by decide) (Below.refl _ _)⟩
                        · intro ρ w1 L hG hny hfr hd
                          have fc : ∀ z, ρ (.const z) = z := fun _ => hfr _ rfl
                          have ff : ∀ z, ρ (.func z) = .func (.func z) #[] #[] := fun _ => hfr _ rfl
                          obtain ⟨d0, -⟩ := hd
                          have d0 : (ρ (.tmp 77)) = .pointer (some ⟨wo2.heap.size, 1, none⟩) := d0
                          have cX1 := cell_touch hG.2 cX1 (hXS)
                          refine gives_val (u := .pointer (some ⟨w.heap.size + 1, k, none⟩)) (w' := w1) (by go_simp) ⟨st1_below (by decide) (Below.refl _ _), rfl, (fun _ hk => by cases hk), hG.step (by decide) (Below.refl _ _)⟩
                        · intro ρ w1 L hG hny hfr hd
                          have fc : ∀ z, ρ (.const z) = z := fun _ => hfr _ rfl
                          have ff : ∀ z, ρ (.func z) = .func (.func z) #[] #[] := fun _ => hfr _ rfl
                          obtain ⟨d0, -⟩ := hd
                          have d0 : (ρ (.tmp 78)) = .pointer (some ⟨w.heap.size + 1, k, none⟩) := d0
                          refine gives_val (u := .pointer (some ⟨w.heap.size + 1, k, none⟩)) (w' := w1) (by go_simp) ⟨st1_below (by decide) (Below.refl _ _), rfl, (fun _ hk => by cases hk), hG.step (by decide) (Below.refl _ _)⟩
                        · intro ρ w1 L hG hny hfr hd
                          have fc : ∀ z, ρ (.const z) = z := fun _ => hfr _ rfl
                          have ff : ∀ z, ρ (.func z) = .func (.func z) #[] #[] := fun _ => hfr _ rfl
                          obtain ⟨d0, -⟩ := hd
                          have d0 : (ρ (.tmp 79)) = .pointer (some ⟨w.heap.size + 1, k, none⟩) := d0
                          have cG := cell_touch hG.2 cG (hGS)
                          refine gives_val (u := .slice a2 n2 c2) (w' := w1) (by go_simp) ⟨st1_below (by decide) (Below.refl _ _), rfl, (fun _ hk => by cases hk), hG.step (by decide) (Below.refl _ _)⟩
                        · intro ρ w1 L hG hny hfr hd
                          have fc : ∀ z, ρ (.const z) = z := fun _ => hfr _ rfl
                          have ff : ∀ z, ρ (.func z) = .func (.func z) #[] #[] := fun _ => hfr _ rfl
                          have f17 : ρ (.tmp 17) = .int .i64 n := hfr _ rfl
                          refine gives_val (u := .int .i64 n) (w' := w1) (by go_simp) ⟨st1_below (by decide) (Below.refl _ _), rfl, (fun _ hk => by cases hk), hG.step (by decide) (Below.refl _ _)⟩
                        · intro ρ w1 L hG hny hfr hd
                          have fc : ∀ z, ρ (.const z) = z := fun _ => hfr _ rfl
                          have ff : ∀ z, ρ (.func z) = .func (.func z) #[] #[] := fun _ => hfr _ rfl
                          obtain ⟨d0, -⟩ := hd
                          have d0 : (ρ (.tmp 81)) = .int .i64 n := d0
                          have hsz := hG.2.size
                          refine gives_val (u := .slice (some ⟨w1.heap.size, 0, none⟩) 1 1) (w' := w1.alloc (.cells #[.int .i64 n] 3)) (by go_simp) ⟨st1_below (by decide) ((Below.refl _ _).alloc (Nat.le_refl _) _), ⟨_, rfl, Blk.new _ _ _, hsz⟩, (fun _ hk => by cases hk), hG.step (by decide) ((Below.refl _ _).alloc (Nat.le_refl _) _)⟩
                        · intro ρ w1 L hG hny hfr hd
                          have fc : ∀ z, ρ (.const z) = z := fun _ => hfr _ rfl
                          have ff : ∀ z, ρ (.func z) = .func (.func z) #[] #[] := fun _ => hfr _ rfl
                          obtain ⟨d0, d1, -⟩ := hd
                          have d0 : (ρ (.tmp 80)) = .slice a2 n2 c2 := d0
                          have d1 : (∃ gz : Nat, (ρ (.tmp 82)) = .slice (some ⟨gz, 0, none⟩) 1 1 ∧ Blk w1 gz #[.int .i64 n] 3 ∧ w6.heap.size ≤ gz) := d1
                          have hL := hny 8 _ rfl (by kernel_rfl)
                          have hbe := hG.1 hL
                          have hown := owns_below HOW.out hbe
                          obtain ⟨gz, d1, hb9, hs9⟩ := d1
                          have hsz := hbe.size
                          refine gives_append_hn _ _ 24 rfl Tryz.underlying24 info_int rfl (by decide) d0 hown (m := 1) d1 (by rfl) (Rd.of_blk hb9) (by simp [Value.oneCell']) (by omega) (by decide) (by omega) ?_
                          intro a' c' w2 hown2 hgr hnew
                          have hT : Touch (rowOf a2).toList w1 w2 := Touch.of_grown hgr (fun q hq => by simpa using hq)
                          exact ⟨st1_own hT, ⟨a', c', rfl, hown2, fun q hq => (hnew q hq).imp id (fun h => by omega)⟩, (fun _ hk => by cases hk), hG.own hT⟩
                        · intro ρ w1 L hG hny hfr hd
                          have fc : ∀ z, ρ (.const z) = z := fun _ => hfr _ rfl
                          have ff : ∀ z, ρ (.func z) = .func (.func z) #[] #[] := fun _ => hfr _ rfl
                          obtain ⟨d0, -⟩ := hd
                          have d0 : (ρ (.tmp 76)) = .pointer (some ⟨w.heap.size + 1, k, none⟩) := d0
                          refine gives_val (u := .pointer (some ⟨w.heap.size + 1, k, none⟩)) (w' := w1) (by go_simp) ⟨st1_below (by decide) (Below.refl _ _), rfl, (fun _ hk => by cases hk), hG.step (by decide) (Below.refl _ _)⟩
                      intro vs w2 LL hG hlen hall hap hbd
                      obtain ⟨xv0, vs0, rfl, hl0⟩ := len_cons hlen
                      obtain ⟨xv1, vs1, rfl, hl1⟩ := len_cons hl0
                      obtain ⟨xv2, vs2, rfl, hl2⟩ := len_cons hl1
                      obtain ⟨xv3, vs3, rfl, hl3⟩ := len_cons hl2
                      obtain ⟨xv4, vs4, rfl, hl4⟩ := len_cons hl3
                      obtain ⟨xv5, vs5, rfl, hl5⟩ := len_cons hl4
                      obtain ⟨xv6, vs6, rfl, hl6⟩ := len_cons hl5
                      obtain ⟨xv7, vs7, rfl, hl7⟩ := len_cons hl6
                      obtain ⟨xv8, vs8, rfl, hl8⟩ := len_cons hl7
                      obtain ⟨xv9, vs9, rfl, hl9⟩ := len_cons hl8
                      obtain rfl := len_nil hl9
                      clear hlen hl0 hl1 hl2 hl3 hl4 hl5 hl6 hl7 hl8 hl9
                      simp only [List.take_succ_cons, List.take_zero, List.drop_succ_cons, List.drop_zero] at hall ⊢
                      obtain ⟨t0', t1', t2', t3', t4', t5', t6', t7', t8', t9', -⟩ := hall
                      have hv0 : xv0 = .pointer (some ⟨wo2.heap.size, 1, none⟩) := t0'
                      have hv1 : xv1 = .pointer (some ⟨w.heap.size + 1, k, none⟩) := t1'
                      have hv2 : xv2 = .pointer (some ⟨wo2.heap.size, 1, none⟩) := t2'
                      have hv3 : xv3 = .pointer (some ⟨w.heap.size + 1, k, none⟩) := t3'
                      have hv4 : xv4 = .pointer (some ⟨w.heap.size + 1, k, none⟩) := t4'
                      have hv5 : xv5 = .slice a2 n2 c2 := t5'
                      have hv6 : xv6 = .int .i64 n := t6'
                      have hv7 : (∃ gz : Nat, xv7 = .slice (some ⟨gz, 0, none⟩) 1 1 ∧ Blk w2 gz #[.int .i64 n] 3 ∧ w6.heap.size ≤ gz) := t7'
                      have hv8 : (∃ (a' : Option Addr) (c' : Nat), xv8 = .slice a' (n2 + 1) c' ∧ w2.ownsRow wA.heap.size 3 1 (.slice a' (n2 + 1) c') (n2 + 1) (ints (lstT q1 k ++ l) ++ [.int .i64 n]) ∧ ∀ q, rowOf a' = some q → rowOf a2 = some q ∨ w6.heap.size ≤ q) := t8'
                      have hv9 : xv9 = .pointer (some ⟨w.heap.size + 1, k, none⟩) := t9'
                      clear t0' t1' t2' t3' t4' t5' t6' t7' t8' t9'
                      clear hap hbd
                      subst hv0 hv1 hv2 hv3 hv4 hv5 hv6 hv9
                      simp only [putAll, Act.put, List.setIfInBounds_toArray, List.set_cons_succ, List.set_cons_zero]
                      obtain ⟨a3, c3, rfl, hown3, hnew3⟩ := hv8
                      have hT2 : Touch (rowOf a2).toList w6 w2 := hG.2
                      have y9 := cell_touch hT2 cG hGS
                      have x9 := (hT2.blk HC6.out.blk hGS).fz k
                      have H52 := Lib.hid hT2
                      have HO3 := Lib.hid hown3
                      have HN3 := Lib.hid hnew3
                      have HP9 := Lib.hid (hT2.blk HKW6.out hPS)
                      have HG9 := Lib.hid (hT2.blk HKG6.out hTS)
                      have HX9 := Lib.hid (hT2.blk HKX6.out hXS)
                      clear hT2 hG hown3 hnew3 cX1 cG hSlt
                      go_wp2
                      go_roundw
                      case rel =>
                        have h1 := HE2.out.1
                        refine ⟨j + 1, v2.put k a3 (n2 + 1) c3, l ++ [n], by omega, by go_num, HNJ, Lib.hid ?_, Lib.hid (FourF.put HC6.out HFj.out k hk (fun q hq => by rw [← h1]; exact HN3.out q hq)), Lib.hid (Touch.set (HT6.out.more H52.out HSLO.out) (by simp)), Lib.hid (HP9.out.other _ _ HNE.out.1), Lib.hid (HG9.out.other _ _ HNE.out.2.1), Lib.hid (HX9.out.other _ _ HNE.out.2.2)⟩
                        have h2 := HC6.out.put HFj.out k hk (a := a3) (n := n2 + 1) (c := c3) (l := lstT q1 k ++ (l ++ [n])) (w' := w2) (by have := HO3.out; simpa [ints] using this) (by rw [← h1]; exact H52.out)
                        rw [putL_putL] at h2
                        exact h2
                      case measure => simp [intOf]; omega
                  · obtain rfl : j = nw - 1 := by omega
                    have hnn : numsI nums = some l := by
                      have := hnj.out
                      rw [List.take_of_length_le (by have := HNW.out; omega)] at this
                      exact this
                    have HNX : Hid (lineTo q p0 nums (k + 1) = some (putL q1 k (lstT q1 k ++ l), true)) := Lib.hid (by rw [HSTEP.out, hnn]; rfl)
                    have HMX : Hid (Most (putL q1 k (lstT q1 k ++ l)) (4194304 * (k + 1 + 1))) := Lib.hid (HM.out.put (by omega) (by
                      have h8 := HM.out.lst k
                      have h7 := numsI_len hnn
                      have h6 := HNW.out
                      rw [List.length_append]
                      omega) k)
                    clear hnn
                    go_wp2
                    go_roundw
                    case rel => exact ⟨k + 1, v2, putL q1 k (lstT q1 k ++ l), true, by omega, by go_num, rfl, HNX, HMX, HCj, HFj, HTj, hkwj, hkgj⟩
                    case measure => simp [intOf]; omega
              · have HNX : Hid (lineTo q p0 nums (k + 1) = some (q1, kn)) := Lib.hid (by rw [hstep, if_neg hq])
                have q1' : ¬ Wd.toList = p0.toList := fun h => hq (toList_inj h)
                have q0 : (Wd.toList == p0.toList) = false := by simpa using q1'
                clear hq q1' hstep
                go_wp2
                go_quiet (fail)
                go_wp2
                have hd := HBX.out.trans ((below_drewN' (wr.alloc (.cells #[.string Wd, .pointer (some ⟨w.heap.size + 1, k, none⟩)] 52)) nq).mono HBX.out.size)
                go_roundw
                case rel => exact ⟨k + 1, v1, q1, kn, by omega, by go_num, rfl, HNX, Lib.hid (HM.out.mono (by omega)), Lib.hid (HCk.out.below hd), HFk, Lib.hid (HTk.out.trans (Touch.of_below hd)), Lib.hid (hkw.out.below hd), Lib.hid (hkg.out.below hd)⟩
                case measure => simp [intOf]; omega
            · obtain rfl : k = 4 := by omega
              cases kn with
              | false =>
                have HR : Hid (parseProg s = none) := Lib.hid (by
                  rw [HTI.out, linesI_dead (i := i + 1) (by rw [HLI2.out, hln.out]; rfl)]
                  rfl)
                have HZ := Lib.hid (HBB.out wr HTk.out)
                have kR2 := HZ.out.2.1
                have y0 := kR2.cell 0 rfl
                have x0 := kR2.fz 0
                have y1 := kR2.cell 1 rfl
                have x1 := kR2.fz 1
                have y2 := kR2.cell 2 rfl
                have x2 := kR2.fz 2
                have y3 := kR2.cell 3 rfl
                have x3 := kR2.fz 3
                have y4 := kR2.cell 4 rfl
                have x4 := kR2.fz 4
                have HBE := Lib.hid (HZ.out.1)
                clear kR2
                go_wp2
                refine bodyPost_ret (v := .tuple #[.agg #[.slice none 0 0, .slice none 0 0, .slice none 0 0, .slice none 0 0, .slice none 0 0], .bool false]) (by simp [results, Tryz.results7, go_sem, y0, y1, y2, y3, y4]) rfl ⟨⟨none, 0, 0, none, 0, 0, none, 0, 0, none, 0, 0, none, 0, 0⟩, [], by rw [HR.out]; rfl, by rw [HR.out]; exact OwnP.zero _, by simp [fpP, fpT, rowOf], fun q hq => by simp [fpP, fpT, rowOf] at hq, by rw [HR.out]; exact Small.zero, ?_⟩
                exact ((((HBE.out.setCell (Nat.le_refl _) _).setCell (Nat.le_refl _) _).setCell (Nat.le_refl _) _).setCell (Nat.le_refl _) _).setCell (Nat.le_refl _) _
              | true =>
                have HNX : Hid (linesI (lines.take (i + 1)) zeroPg = some q1) := Lib.hid (by rw [HLI2.out, hln.out]; rfl)
                have HTH : Hid (q1.threads = q.threads) := Lib.hid (lineTo_threads hln.out)
                go_wp2
                go_roundw
                case rel => exact ⟨i + 1, v1, vs, q1, by omega, by go_num, HNX, Lib.hid (by rw [HTH.out]; exact HCk.out), HFk, HTk⟩
                case measure => simp [intOf]; omega
      · obtain rfl : i = np := by omega
        have HLI : Hid (linesI lines zeroPg = some q) := Lib.hid (by
          have := hnum.out
          rw [List.take_of_length_le (by rw [← HNP.out]; exact Nat.le_refl _)] at this
          exact this)
        have HZ0 := Lib.hid (HBB.out wr HT.out)
        have HSM : Hid (Small v q) := Lib.hid (HC.out.smallM (HRS.out _ _ hnum.out).1 (HRS.out _ _ hnum.out).2.1 (HRS.out _ _ hnum.out).2.2)
        have HRD := Lib.hid (HC.out.own rfl).rd
        have hS := HZ0.out.2.2.2
        have e0 := HC.out.blk.cell 0 rfl
        have e1 := HC.out.blk.cell 1 rfl
        have e2 := HC.out.blk.cell 2 rfl
        have e3 := HC.out.blk.cell 3 rfl
        have e4 := HC.out.blk.cell 4 rfl
        cases hv : progValid q with
        | false =>
          have HV := Lib.hid hv
          have HR : Hid (parseProg s = none) := Lib.hid (by
            rw [HTI.out, HLI.out]
            show (if progValid q = true then _ else none) = none
            rw [if_neg (by rw [hv]; decide)])
          clear hv
          go_wp2_with fail
          refine (implProgValid_any v q _ HRD.out HSM.out).mono ?_
          rintro e w6 ⟨rfl, hb2⟩
          rw [HV.out]
          have HZ := Lib.hid (HBB.out w6 (HT.out.trans (Touch.of_below hb2)))
          clear hb2
          have kR2 := HZ.out.2.1
          have y0 := kR2.cell 0 rfl
          have x0 := kR2.fz 0
          have y1 := kR2.cell 1 rfl
          have x1 := kR2.fz 1
          have y2 := kR2.cell 2 rfl
          have x2 := kR2.fz 2
          have y3 := kR2.cell 3 rfl
          have x3 := kR2.fz 3
          have y4 := kR2.cell 4 rfl
          have x4 := kR2.fz 4
          have HBE := Lib.hid (HZ.out.1)
          clear kR2
          go_wp2
          refine bodyPost_ret (v := .tuple #[.agg #[.slice none 0 0, .slice none 0 0, .slice none 0 0, .slice none 0 0, .slice none 0 0], .bool false]) (by simp [results, Tryz.results7, go_sem, y0, y1, y2, y3, y4]) rfl ⟨⟨none, 0, 0, none, 0, 0, none, 0, 0, none, 0, 0, none, 0, 0⟩, [], by rw [HR.out]; rfl, by rw [HR.out]; exact OwnP.zero _, by simp [fpP, fpT, rowOf], fun q hq => by simp [fpP, fpT, rowOf] at hq, by rw [HR.out]; exact Small.zero, ?_⟩
          exact ((((HBE.out.setCell (Nat.le_refl _) _).setCell (Nat.le_refl _) _).setCell (Nat.le_refl _) _).setCell (Nat.le_refl _) _).setCell (Nat.le_refl _) _
        | true =>
          have HV := Lib.hid hv
          have HNE : Hid (0 < q.threads.length) := Lib.hid (by have := (valid_threads hv).1; omega)
          clear hv
          by_cases hf : fmtProg q = s
          · have HR : Hid (parseProg s = some q) := Lib.hid (by
              rw [HTI.out, HLI.out]
              show (if progValid q = true then (if fmtProg q = s then some q else none) else none) = some q
              rw [if_pos HV.out, if_pos hf])
            have q0 : ((fmtProg q).toList == s.toList) = true := by rw [hf]; simp
            clear hf
            go_wp2_with fail
            refine (implProgValid_any v q _ HRD.out HSM.out).mono ?_
            rintro e w6 ⟨rfl, hb3⟩
            rw [HV.out]
            have HC2 := Lib.hid (HC.out.below hb3)
            have HRD2 := Lib.hid (HRD.out.below hb3)
            have e0 := HC2.out.blk.cell 0 rfl
            have e1 := HC2.out.blk.cell 1 rfl
            have e2 := HC2.out.blk.cell 2 rfl
            have e3 := HC2.out.blk.cell 3 rfl
            have e4 := HC2.out.blk.cell 4 rfl
            go_wp2_with fail
            refine (implFormatProg_any v q _ (HL.out.below (HBB.out w6 (HT.out.trans (Touch.of_below hb3))).1).laid HRD2.out HSM.out).mono ?_
            rintro e w7 ⟨rfl, hb4⟩
            have HC3 := Lib.hid (HC2.out.below hb4)
            have e0 := HC3.out.blk.cell 0 rfl
            have e1 := HC3.out.blk.cell 1 rfl
            have e2 := HC3.out.blk.cell 2 rfl
            have e3 := HC3.out.blk.cell 3 rfl
            have e4 := HC3.out.blk.cell 4 rfl
            go_wp2_with fail
            refine (clone_any v q _ (HRD2.out.below hb4) HSM.out HNE.out).mono ?_
            rintro e w8 ⟨u, us, rfl, ho, hnd, hfr, hb8⟩
            have hb9 : Below wr.heap.size wr w8 := hb3.trans ((hb4.mono hb3.size).trans (hb8.mono (by have := hb3.size; have := hb4.size; omega)))
            have HZ := Lib.hid (HBB.out w8 (HT.out.trans (Touch.of_below hb9)))
            have HOW := Lib.hid ho
            have HFR : Hid (∀ k ∈ fpP u us, w.heap.size < k) := Lib.hid (fun k hk => by have := hfr k hk; have := HS1.out; have := hb3.size; have := hb4.size; omega)
            have HND := Lib.hid hnd
            have HSU : Hid (Small u q) := Lib.hid (HSM.out.at HRD.out ho.rd)
            have kR2 := HZ.out.2.1
            have y0 := kR2.cell 0 rfl
            have x0 := kR2.fz 0
            have y1 := kR2.cell 1 rfl
            have x1 := kR2.fz 1
            have y2 := kR2.cell 2 rfl
            have x2 := kR2.fz 2
            have y3 := kR2.cell 3 rfl
            have x3 := kR2.fz 3
            have y4 := kR2.cell 4 rfl
            have x4 := kR2.fz 4
            clear kR2 ho hnd hfr hb8 hb9 hb3 hb4
            go_wp2
            refine bodyPost_ret (v := .tuple #[.agg #[.slice u.s u.ns u.cs, .slice u.g u.ng u.cg, .slice u.b u.nb u.cb, .slice u.r u.nr u.cr, .slice u.t u.nt u.ct], .bool true]) (by simp [results, Tryz.results7, go_sem, y0, y1, y2, y3, y4]) rfl ⟨u, us, by rw [HR.out]; rfl, ?_, HND.out, fun k hk => Nat.le_of_lt (HFR.out k hk), by rw [HR.out]; exact HSU.out, ?_⟩
            · rw [HR.out]
              refine HOW.out.touch (S := [w.heap.size]) ?_ (fun k hk hm => by have := HFR.out k hk; simp at hm; omega)
              exact Touch.set (Touch.set (Touch.set (Touch.set (Touch.set (Touch.refl _ _) (by simp)) (by simp)) (by simp)) (by simp)) (by simp)
            · exact ((((HZ.out.1.setCell (Nat.le_refl _) _).setCell (Nat.le_refl _) _).setCell (Nat.le_refl _) _).setCell (Nat.le_refl _) _).setCell (Nat.le_refl _) _
          · have HR : Hid (parseProg s = none) := Lib.hid (by
              rw [HTI.out, HLI.out]
              show (if progValid q = true then (if fmtProg q = s then some q else none) else none) = none
              rw [if_pos HV.out, if_neg hf])
            have q1 : ¬ (fmtProg q).toList = s.toList := fun h => hf (toList_inj h)
            have q0 : ((fmtProg q).toList == s.toList) = false := by simpa using q1
            clear hf q1
            go_wp2_with fail
            refine (implProgValid_any v q _ HRD.out HSM.out).mono ?_
            rintro e w6 ⟨rfl, hb3⟩
            rw [HV.out]
            have HC2 := Lib.hid (HC.out.below hb3)
            have HRD2 := Lib.hid (HRD.out.below hb3)
            have e0 := HC2.out.blk.cell 0 rfl
            have e1 := HC2.out.blk.cell 1 rfl
            have e2 := HC2.out.blk.cell 2 rfl
            have e3 := HC2.out.blk.cell 3 rfl
            have e4 := HC2.out.blk.cell 4 rfl
            go_wp2_with fail
            refine (implFormatProg_any v q _ (HL.out.below (HBB.out w6 (HT.out.trans (Touch.of_below hb3))).1).laid HRD2.out HSM.out).mono ?_
            rintro e w7 ⟨rfl, hb4⟩
            have HC3 := Lib.hid (HC2.out.below hb4)
            have e0 := HC3.out.blk.cell 0 rfl
            have e1 := HC3.out.blk.cell 1 rfl
            have e2 := HC3.out.blk.cell 2 rfl
            have e3 := HC3.out.blk.cell 3 rfl
            have e4 := HC3.out.blk.cell 4 rfl
            have HZ := Lib.hid (HBB.out w7 (HT.out.trans (Touch.of_below (hb3.trans (hb4.mono hb3.size)))))
            clear hb3 hb4
            have kR2 := HZ.out.2.1
            have y0 := kR2.cell 0 rfl
            have x0 := kR2.fz 0
            have y1 := kR2.cell 1 rfl
            have x1 := kR2.fz 1
            have y2 := kR2.cell 2 rfl
            have x2 := kR2.fz 2
            have y3 := kR2.cell 3 rfl
            have x3 := kR2.fz 3
            have y4 := kR2.cell 4 rfl
            have x4 := kR2.fz 4
            have HBE := Lib.hid (HZ.out.1)
            clear kR2
            go_wp2
            refine bodyPost_ret (v := .tuple #[.agg #[.slice none 0 0, .slice none 0 0, .slice none 0 0, .slice none 0 0, .slice none 0 0], .bool false]) (by simp [results, Tryz.results7, go_sem, y0, y1, y2, y3, y4]) rfl ⟨⟨none, 0, 0, none, 0, 0, none, 0, 0, none, 0, 0, none, 0, 0⟩, [], by rw [HR.out]; rfl, by rw [HR.out]; exact OwnP.zero _, by simp [fpP, fpT, rowOf], fun q hq => by simp [fpP, fpT, rowOf] at hq, by rw [HR.out]; exact Small.zero, ?_⟩
            exact ((((HBE.out.setCell (Nat.le_refl _) _).setCell (Nat.le_refl _) _).setCell (Nat.le_refl _) _).setCell (Nat.le_refl _) _).setCell (Nat.le_refl _) _
  · rw [decide_eq_false hc, if_neg hc]
    have HR : Hid (parseProg s = none) := Lib.hid (by rw [HPO.out]; unfold progI readI; rw [if_neg hc]; rfl)
    obtain ⟨WA, hWA⟩ : ∃ WA, WA = ((w.alloc (.cells #[.slice none 0 0, .slice none 0 0, .slice none 0 0, .slice none 0 0, .slice none 0 0] 27)).alloc (.cells #[.slice none 0 0, .slice none 0 0, .slice none 0 0, .slice none 0 0, .slice none 0 0] 27)) := ⟨_, rfl⟩
    rw [← hWA] at kR B0 ⊢
    clear hc hm kG hs0 hWA
    have kR2 := kR
    have y0 := kR2.cell 0 rfl
    have x0 := kR2.fz 0
    have y1 := kR2.cell 1 rfl
    have x1 := kR2.fz 1
    have y2 := kR2.cell 2 rfl
    have x2 := kR2.fz 2
    have y3 := kR2.cell 3 rfl
    have x3 := kR2.fz 3
    have y4 := kR2.cell 4 rfl
    have x4 := kR2.fz 4
    have HBE := Lib.hid (B0)
    clear kR2
    go_wp2
    refine bodyPost_ret (v := .tuple #[.agg #[.slice none 0 0, .slice none 0 0, .slice none 0 0, .slice none 0 0, .slice none 0 0], .bool false]) (by simp [results, Tryz.results7, go_sem, y0, y1, y2, y3, y4]) rfl ⟨⟨none, 0, 0, none, 0, 0, none, 0, 0, none, 0, 0, none, 0, 0⟩, [], by rw [HR.out]; rfl, by rw [HR.out]; exact OwnP.zero _, by simp [fpP, fpT, rowOf], fun q hq => by simp [fpP, fpT, rowOf] at hq, by rw [HR.out]; exact Small.zero, ?_⟩
    exact ((((HBE.out.setCell (Nat.le_refl _) _).setCell (Nat.le_refl _) _).setCell (Nat.le_refl _) _).setCell (Nat.le_refl _) _).setCell (Nat.le_refl _) _
end Go.Proofs.YthamndmfenpniaaGreatDoor
