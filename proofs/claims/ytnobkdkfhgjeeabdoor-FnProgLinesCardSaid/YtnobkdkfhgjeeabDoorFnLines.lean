/- The law FnProgLines: its walk. -/
import Derived.Test.YtnobkdkfhgjeeabDoorFmtImpl3
import Derived.Test.YtnobkdkfhgjeeabDoorBaseD
import Derived.Lib.QuietBelow
import Derived.BigQuiet
import Derived.IntWalk
namespace Go.Proofs.YtnobkdkfhgjeeabDoor
open Go.RowKit Go.Sort

/-- How many lines end in a text. -/
def nls (l : List UInt8) : Nat := l.countP (fun b => b == 10)
def cnt (s : ByteArray) : Nat := nls s.data.toList
theorem cnt_app (a b : ByteArray) : cnt (a ++ b) = cnt a + cnt b := by
  unfold cnt nls
  simp
theorem cnt_dig (n : Nat) (h : n < 10) : cnt (digB n) = 0 := by
  have : ∀ m : Fin 10, cnt (digB m.val) = 0 := by decide
  exact this ⟨n, h⟩
theorem cnt_decNat : ∀ (n : Nat) (acc : ByteArray), cnt (decNat n acc) = cnt acc := by
  intro n
  induction n using Nat.strongRecOn with
  | _ n ih =>
    intro acc
    by_cases h : 9 < n
    · rw [decNat_more n acc h, ih (n / 10) (by omega), cnt_app, cnt_dig _ (Nat.mod_lt _ (by decide))]; omega
    · rw [decNat_last n acc h, cnt_app, cnt_dig _ (by omega)]; omega
theorem cnt_decI (n : Int) : cnt (decI n) = 0 := by
  unfold decI
  split
  · decide
  · split
    · rw [cnt_app, cnt_decNat]; rfl
    · rw [cnt_decNat]; rfl
theorem cnt_word (k : Int) : cnt (wordB k) = 0 := by
  unfold wordB
  repeat' split
  all_goals decide
theorem cnt_op (o : OpD) : cnt (fmtOp o) = 0 := by
  unfold fmtOp
  have hs : cnt spB = 0 := by decide
  repeat' split
  all_goals first | simp [cnt_app, cnt_word, cnt_decI, hs] | rfl
theorem cnt_list (word : ByteArray) (l : List Int) : ∀ k, cnt (listTo word l k) = cnt word
  | 0 => rfl
  | k + 1 => by
    have hs : cnt spB = 0 := by decide
    unfold listTo
    simp only [cnt_app, cnt_decI, hs, cnt_list word l k, Nat.add_zero]
theorem cnt_text (word : ByteArray) (l : List Int) (h : cnt word = 0) : cnt (listText word l) ≤ 1 := by
  unfold listText
  split
  · decide
  · rw [cnt_app, cnt_list, h]; decide
theorem cnt_ops (s : ByteArray) (l : List OpD) : ∀ k, cnt (opsTo s l k) = cnt s
  | 0 => rfl
  | k + 1 => by
    have hs : cnt spB = 0 := by decide
    have hc : cnt commaB = 0 := by decide
    unfold opsTo
    split <;> simp only [cnt_app, cnt_op, hs, hc, cnt_ops s l k, Nat.add_zero]
theorem cnt_thr (s : ByteArray) (ts : List (List OpD)) : ∀ i, cnt (thrTo s ts i) = cnt s + i
  | 0 => rfl
  | i + 1 => by
    have hn : cnt nlB = 1 := by decide
    have ht : cnt threadB = 0 := by decide
    unfold thrTo
    rw [cnt_app, cnt_ops, cnt_app, cnt_thr s ts i, hn, ht]; omega
theorem cnt_prog {p : Pg} (hv : progValid p = true) : p.threads.length ≤ cnt (fmtProg p) ∧ cnt (fmtProg p) ≤ p.threads.length + 4 ∧ ∃ X, fmtProg p = X ++ nlB := by
  have h1 := cnt_text semsB p.sems (by decide)
  have h2 := cnt_text groupsB p.groups (by decide)
  have h3 := cnt_text barriersB p.barriers (by decide)
  have h4 := cnt_text roomsB p.rooms (by decide)
  have e : fmtProg p = thrTo (listsText p) p.threads p.threads.length := by unfold fmtProg; rw [if_pos hv]
  have e2 : cnt (listsText p) ≤ 4 := by unfold listsText; simp only [cnt_app]; omega
  refine ⟨by rw [e, cnt_thr]; omega, by rw [e, cnt_thr]; omega, ?_⟩
  obtain ⟨m, hm⟩ : ∃ m, p.threads.length = m + 1 := ⟨p.threads.length - 1, by have := (valid_threads hv).1; omega⟩
  rw [e, hm]
  exact ⟨_, rfl⟩
/-- .. counted byte by byte. -/
def nlTo (s : ByteArray) : Nat → Nat
  | 0 => 0
  | i + 1 => if byteAt s i = 10 then nlTo s i + 1 else nlTo s i
theorem byteAt_list (s : ByteArray) (i : Nat) (hi : i < s.size) : s.data.toList[i]? = some s[i] := by
  rw [Array.getElem?_toList, Array.getElem?_eq_getElem hi]; rfl
theorem nlTo_eq (s : ByteArray) : ∀ i, i ≤ s.size → nlTo s i = nls (s.data.toList.take i)
  | 0, _ => rfl
  | i + 1, hi => by
    have h := nlTo_eq s i (by omega)
    rw [List.take_add_one, byteAt_list s i (by omega)]
    unfold nlTo byteAt
    rw [dif_pos (by omega), h]
    unfold nls
    rw [List.countP_append]
    by_cases hb : s[i] = 10
    · rw [if_pos (by rw [hb]; rfl)]
      simp [hb]
    · rw [if_neg (fun e => hb (by apply UInt8.toNat.inj; have : (s[i].toNat : Int) = 10 := e; have h10 : (10 : UInt8).toNat = 10 := rfl; omega))]
      simp [hb]
theorem nlTo_all (s : ByteArray) : nlTo s s.size = cnt s := by
  rw [nlTo_eq s s.size (Nat.le_refl _), List.take_of_length_le (by rw [Array.length_toList]; exact Nat.le_refl _)]
  rfl
theorem nlTo_le (s : ByteArray) : ∀ i, nlTo s i ≤ i
  | 0 => Nat.le_refl _
  | i + 1 => by
    have := nlTo_le s i
    unfold nlTo
    split <;> omega

set_option maxRecDepth 100000 in
set_option maxHeartbeats 4000000 in
theorem fnProgLinesLaw (a : Option Addr) (n c : Nat) (bs : List Int) (w : World) (hLd : Laid w) (hl : bs.length = n) (h1 : Rd w a (bytesV bs)) (hmx : n ≤ maxLen) (hcap : n ≤ c) (hby : ∀ b ∈ bs, 0 ≤ b ∧ b ≤ 255) :
    Calls Tryd.prog 4 #[.slice a n c] w fun e w' => e = .returned (.bool true) ∧ Below w.heap.size w w' := by
  unfold maxLen at hmx
  have HL := Lib.hid hl
  have HBY := Lib.hid hby
  clear hl hby
  by_cases hn : n ≤ 1048576
  · have hC := Lib.hid (Code13.mk HL.out h1 hcap HBY.out hn)
    clear HL HBY h1
    go_enter Tryd.func4, Tryd.ntmps4
    go_wp2_with fail
    refine (drawFormatProg_any a n c bs w hC.out).mono ?_
    rintro e w1 ⟨v, vs, p, rfl, o1, hb⟩
    have HB := Lib.hid hb
    have HR := Lib.hid o1.own.rd
    have HF := Lib.hid o1.few
    have HZ := Lib.hid (o1.small (by omega))
    clear hb o1 hC
    have HLD := Lib.hid (hLd.below HB.out)
    clear hLd
    have bb : Below w1.heap.size w1 (w1.alloc (.cells #[.slice v.s v.ns v.cs, .slice v.g v.ng v.cg, .slice v.b v.nb v.cb, .slice v.r v.nr v.cr, .slice v.t v.nt v.ct] 30)) := (Below.refl _ _).alloc (Nat.le_refl _) _
    have kp : Blk (w1.alloc (.cells #[.slice v.s v.ns v.cs, .slice v.g v.ng v.cg, .slice v.b v.nb v.cb, .slice v.r v.nr v.cr, .slice v.t v.nt v.ct] 30)) w1.heap.size #[.slice v.s v.ns v.cs, .slice v.g v.ng v.cg, .slice v.b v.nb v.cb, .slice v.r v.nr v.cr, .slice v.t v.nt v.ct] 30 := Blk.new _ _ _
    replace HR := Lib.hid (HR.out.below bb)
    replace HLD := Lib.hid (HLD.out.below bb)
    replace HB := Lib.hid (HB.out.trans (bb.mono HB.out.size))
    clear bb
    obtain ⟨T, hT⟩ : ∃ T, T = fmtProg p := ⟨_, rfl⟩
    have HTX := Lib.hid hT
    have hTT : (T.toList == T.toList) = true := by simp
    have lt := Lib.hid HR.out.lt
    clear hT
    have ckp0 := kp.cell 0 rfl
    have ckp1 := kp.cell 1 rfl
    have ckp2 := kp.cell 2 rfl
    have ckp3 := kp.cell 3 rfl
    have ckp4 := kp.cell 4 rfl
    go_wp2_with fail
    refine (implFormatProg_any v p _ HLD.out HR.out HZ.out).mono ?_
    rintro e w2 ⟨rfl, hb⟩
    rw [← HTX.out]
    replace HR := Lib.hid (HR.out.below hb)
    replace HLD := Lib.hid (HLD.out.below hb)
    replace kp := kp.below hb
    replace HB := Lib.hid (HB.out.trans (hb.mono HB.out.size))
    clear hb
    clear ckp0 ckp1 ckp2 ckp3 ckp4
    cases hv : progValid p with
    | false =>
      have HT0 : Hid (T.toList.isEmpty = true) := Lib.hid (by rw [HTX.out]; unfold fmtProg; rw [if_neg (by rw [hv]; decide)]; rw [ByteArray.toList_eq]; rfl)
      have ht0 := HT0.out
      clear hv
      have ckp0 := kp.cell 0 rfl
      have ckp1 := kp.cell 1 rfl
      have ckp2 := kp.cell 2 rfl
      have ckp3 := kp.cell 3 rfl
      have ckp4 := kp.cell 4 rfl
      go_wp2_with fail
      refine (specFormatProg_any v p _ HR.out HZ.out).mono ?_
      rintro e w3 ⟨rfl, hb⟩
      rw [← HTX.out]
      replace HR := Lib.hid (HR.out.below hb)
      replace HLD := Lib.hid (HLD.out.below hb)
      replace kp := kp.below hb
      replace HB := Lib.hid (HB.out.trans (hb.mono HB.out.size))
      clear hb
      clear ckp0 ckp1 ckp2 ckp3 ckp4
      have ckp0 := kp.cell 0 rfl
      have ckp1 := kp.cell 1 rfl
      have ckp2 := kp.cell 2 rfl
      have ckp3 := kp.cell 3 rfl
      have ckp4 := kp.cell 4 rfl
      go_wp2_with fail
      refine (specFormatProg_any v p _ HR.out HZ.out).mono ?_
      rintro e w4 ⟨rfl, hb⟩
      rw [← HTX.out]
      replace HR := Lib.hid (HR.out.below hb)
      replace HLD := Lib.hid (HLD.out.below hb)
      replace kp := kp.below hb
      replace HB := Lib.hid (HB.out.trans (hb.mono HB.out.size))
      clear hb
      clear ckp0 ckp1 ckp2 ckp3 ckp4
      go_wp2
      go_ret
      exact ⟨rfl, HB.out⟩
    | true =>
      obtain ⟨n1, n2, X, hX⟩ := cnt_prog hv
      rw [← HTX.out] at n1 n2 hX
      have hsz : T.size = X.size + 1 := by rw [hX, ByteArray.size_append]; rfl
      have hsb : T.size ≤ 1948 := by rw [HTX.out]; exact fmtProg_size p
      have HT0 : Hid (T.toList.isEmpty = false) := Lib.hid (by rw [ByteArray.toList_eq]; have : T.data.toList.length = X.size + 1 := hsz; cases h : T.data.toList with
        | nil => rw [h] at this; cases this
        | cons a b => rfl)
      have ht0 := HT0.out
      have hlast : ((T[X.size].toNat : Int) == 10) = true := by
        have e : T[X.size]'(by omega) = 10 := by
          subst hX
          rw [ByteArray.getElem_append_right (Nat.le_refl _)]
          simp [nlB]
          rfl
        rw [e]; rfl
      obtain ⟨m, hm⟩ : ∃ m, m = X.size := ⟨_, rfl⟩
      have HN1 := Lib.hid n1
      have HN2 := Lib.hid n2
      have HLAST := Lib.hid hlast
      have HSZ := Lib.hid hsz
      clear hv hlast n1 n2 hX
      have ckp0 := kp.cell 0 rfl
      have ckp1 := kp.cell 1 rfl
      have ckp2 := kp.cell 2 rfl
      have ckp3 := kp.cell 3 rfl
      have ckp4 := kp.cell 4 rfl
      go_wp2_with fail
      refine (specFormatProg_any v p _ HR.out HZ.out).mono ?_
      rintro e w3 ⟨rfl, hb⟩
      rw [← HTX.out]
      replace HR := Lib.hid (HR.out.below hb)
      replace HLD := Lib.hid (HLD.out.below hb)
      replace kp := kp.below hb
      replace HB := Lib.hid (HB.out.trans (hb.mono HB.out.size))
      clear hb
      clear ckp0 ckp1 ckp2 ckp3 ckp4
      go_wp2
      go_loopw [5, 6] (fun vn vi wr => ∃ i : Nat, vi = .int .i64 i ∧ vn = .int .i64 (nlTo T i) ∧ i ≤ T.size ∧ wr = w3) (fun _ vi _ => T.size - (intOf vi).toNat)
      case atStart => exact ⟨0, rfl, rfl, by omega, rfl⟩
      case round =>
        obtain ⟨i, rfl, rfl, hi, rfl⟩ := hrel
        have hni := nlTo_le T i
        by_cases hlt : i < T.size
        · by_cases hb10 : byteAt T i = 10
          · have HNX : Hid (nlTo T (i + 1) = nlTo T i + 1) := Lib.hid (by rw [nlTo, if_pos hb10])
            have t1 : ((T[i].toNat : Int) == 10) = true := by
              unfold byteAt at hb10
              rw [dif_pos hlt] at hb10
              simpa using hb10
            clear hb10
            go_wp2
            go_roundw
            case rel => exact ⟨i + 1, by go_num, by rw [HNX.out]; go_num, by omega, trivial⟩
            case measure => simp [intOf]; omega
          · have HNX : Hid (nlTo T (i + 1) = nlTo T i) := Lib.hid (by rw [nlTo, if_neg hb10])
            have t1 : ((T[i].toNat : Int) == 10) = false := by
              unfold byteAt at hb10
              rw [dif_pos hlt] at hb10
              simpa using hb10
            clear hb10
            go_wp2
            go_roundw
            case rel => exact ⟨i + 1, by go_num, by rw [HNX.out], by omega, trivial⟩
            case measure => simp [intOf]; omega
        · obtain rfl : i = T.size := by omega
          rw [nlTo_all] at hni ⊢
          have e1 := HN1.out
          have e2 := HN2.out
          rw [lt.out] at e1 e2
          obtain ⟨N, hN⟩ : ∃ N, N = cnt T := ⟨_, rfl⟩
          rw [← hN] at e1 e2 ⊢
          have t4 : (N : Int) ≤ (v.nt : Int) + 4 := by omega
          have hw4 : IntKind.i64.wrap ((v.nt : Int) + 4) = (v.nt : Int) + 4 := Go.IntWalk.i64_in _ (by have := HZ.out.lt; omega)
          have c4 := kp.cell 4 rfl
          have t5 := HLAST.out
          clear hN hTT ht0
          go_wp2
          go_ret
          exact ⟨rfl, HB.out⟩
  · go_enter Tryd.func4, Tryd.ntmps4
    go_wp2
    go_ret
    exact ⟨rfl, Below.refl _ _⟩

end Go.Proofs.YtnobkdkfhgjeeabDoor
