/- Part of a proof: DelFunc2. -/
import Derived.Test.YtppoohbkkdgljaaVDelFunc
set_option maxRecDepth 100000
set_option maxHeartbeats 16000000
namespace Go.Proofs.Ytppoohbkkdgljaa
open Go.RowKit
def zbM (nq : OpD → Bool) (l : List OpD) (i j : Nat) (cs : List Value) : Prop :=
 i < j ∧ j ≤ l.length ∧ i = ((l.take j).filter nq).length ∧ ∃ mid : List Value, mid.length = (j - i) * 3 ∧ cs = opsV ((l.take j).filter nq) ++ mid ++ opsV (l.drop j)
theorem zey (l : List OpD) (j : Nat) (hj : j < l.length) : l.drop j = l.getD j noOp :: l.drop (j + 1) := by
 rw [List.drop_eq_getElem_cons hj]
 congr 1
 simp [List.getD, hj]
theorem zbM.start {q : OpD → Bool} {l : List OpD} {i : Nat} (hi : i < l.length) (hq : q (l.getD i noOp) = true) (hall : ∀ j, j < i → q (l.getD j noOp) = false) : zbM (fun o => !(q o)) l i (i + 1) (opsV l) := by
 have e1 : (l.take i).filter (fun o => !(q o)) = l.take i := zfR.none (fun j hj => by
  rw [List.length_take] at hj
  have : (l.take i).getD j noOp = l.getD j noOp := by simp [List.getD, show j < i by omega]
  rw [this]; exact hall j (by omega))
 have e2 : (l.take (i + 1)).filter (fun o => !(q o)) = l.take i := by
  have hn : (!(q (l.getD i noOp))) = false := by rw [hq]; rfl
  rw [zcp _ l i hi]
  show _ ++ (if (!(q (l.getD i noOp))) = true then _ else _) = _
  rw [hn, e1]; simp
 refine ⟨by omega, by omega, by rw [e2, List.length_take]; omega, opv (l.getD i noOp), by rw [zcx]; omega, ?_⟩
 rw [e2]
 conv => lhs; rw [← List.take_append_drop i l, zey l i hi]
 simp [opsV, List.flatMap_append, List.flatMap_cons]
theorem zbM.len {nq : OpD → Bool} {l : List OpD} {i j : Nat} {cs : List Value} (h : zbM nq l i j cs) : cs.length = l.length * 3 := by
 obtain ⟨h1, h2, h3, mid, h4, rfl⟩ := h
 simp only [List.length_append, zct, List.length_drop, h4, ← h3]
 omega
theorem zbM.get {nq : OpD → Bool} {l : List OpD} {i j : Nat} {cs : List Value} (h : zbM nq l i j cs) (hj : j < l.length) (t : Nat) (ht : t < 3) : cs[j * 3 + t]? = (opv (l.getD j noOp))[t]? := by
 obtain ⟨h1, h2, h3, mid, h4, rfl⟩ := h
 have hl : (opsV ((l.take j).filter nq) ++ mid).length = j * 3 := by rw [List.length_append, zct, ← h3, h4]; omega
 rw [List.getElem?_append_right (by omega), hl, zey l j hj, Nat.add_sub_cancel_left]
 show (opv (l.getD j noOp) ++ opsV (l.drop (j + 1)))[t]? = _
 rw [List.getElem?_append_left (by rw [zcx]; exact ht)]
theorem zbM.skip {nq : OpD → Bool} {l : List OpD} {i j : Nat} {cs : List Value} (h : zbM nq l i j cs) (hj : j < l.length) (hq : nq (l.getD j noOp) = false) : zbM nq l i (j + 1) cs := by
 obtain ⟨h1, h2, h3, mid, h4, rfl⟩ := h
 have e : (l.take (j + 1)).filter nq = (l.take j).filter nq := by
  rw [zcp nq l j hj, hq]; simp
 refine ⟨by omega, by omega, by rw [e]; exact h3, mid ++ opv (l.getD j noOp), by rw [List.length_append, zcx, h4]; omega, ?_⟩
 rw [e, zey l j hj]
 simp [opsV, List.flatMap_cons]
theorem zkA (k : Nat) (a b c : Value) (cs : List Value) (h : k + 3 ≤ cs.length) : ((cs.set k a).set (k + 1) b).set (k + 2) c = over k [a, b, c] cs := by
 rw [← zev k a [b, c] cs (by simp; omega), ← zev (k + 1) b [c] _ (by simp; omega), ← zev (k + 1 + 1) c [] _ (by simp; omega)]
 simp [over]
theorem zbM.keep {nq : OpD → Bool} {l : List OpD} {i j : Nat} {cs : List Value} (h : zbM nq l i j cs) (hj : j < l.length) (hq : nq (l.getD j noOp) = true) :
  zbM nq l (i + 1) (j + 1) (((cs.set (i * 3) (.int .i64 (l.getD j noOp).kind)).set (i * 3 + 1) (.int .i64 (l.getD j noOp).on)).set (i * 3 + 2) (.int .i64 (l.getD j noOp).arg)) := by
 have hcl := h.len
 have hij := h.1
 rw [zkA _ _ _ _ _ (by rw [hcl]; omega)]
 obtain ⟨h1, h2, h3, mid, h4, rfl⟩ := h
 have e : (l.take (j + 1)).filter nq = (l.take j).filter nq ++ [l.getD j noOp] := by
  rw [zcp nq l j hj, hq]; rfl
 refine ⟨by omega, by omega, by rw [e, List.length_append, ← h3]; rfl, mid.drop 3 ++ opv (l.getD j noOp), by rw [List.length_append, List.length_drop, zcx, h4]; omega, ?_⟩
 have hA : (opsV ((l.take j).filter nq)).length = i * 3 := by rw [zct, ← h3]
 unfold over
 rw [List.append_assoc (opsV ((l.take j).filter nq)), List.take_left' hA]
 have e2 : (opsV ((l.take j).filter nq) ++ (mid ++ opsV (l.drop j))).drop (i * 3 + [Value.int .i64 (l.getD j noOp).kind, .int .i64 (l.getD j noOp).on, .int .i64 (l.getD j noOp).arg].length) = mid.drop 3 ++ opsV (l.drop j) := by
  rw [← hA, List.drop_length_add_append]
  show (mid ++ opsV (l.drop j)).drop 3 = _
  rw [List.drop_append_of_le_length (by omega)]
 rw [e2, e, zey l j hj]
 simp [opsV, List.flatMap_append, List.flatMap_cons, opv]
theorem zbM.done {nq : OpD → Bool} {l : List OpD} {i j : Nat} {cs : List Value} (h : zbM nq l i j cs) (hj : j = l.length) : cs.take (i * 3) = opsV (l.filter nq) ∧ i = (l.filter nq).length := by
 obtain ⟨h1, h2, h3, mid, h4, rfl⟩ := h
 subst hj
 rw [List.take_length] at h3 ⊢
 refine ⟨?_, h3⟩
 rw [List.append_assoc, List.take_left' (by rw [zct, ← h3])]
theorem zfY (g : Nat) (lb : Array Value) (q : OpD → Bool) (a : Option Addr) (m c : Nat) (l : List OpD) (w : World) (eg : ∀ args w, (callFunc g args).run Try.prog w = .ok (.enter g args) w)
  (ho : w.ownsRow 0 44 3 (.slice a m c) m (opsV l)) (hm : m ≤ 1048576) (hp : ∀ o w', Calls Try.prog g (#[ziQ o] ++ lb) w' fun e w2 => e = .returned (.bool (q o)) ∧ Below w'.heap.size w' w2) :
  Calls Try.prog 12 #[.slice a m c, .func (.func g) #[] lb] w fun e w' => ∃ (m' c' : Nat), e = .returned (.slice a m' c') ∧ w'.ownsRow 0 44 3 (.slice a m' c') m' (opsV (l.filter (fun o => !(q o)))) ∧ w.grownBy w' (zi a) := by
 have hlm : l.length = m := by have := ho.1; rw [zct] at this; omega
 have HL := xH1 hlm
 have HO := xH1 ho
 have HRD := xH1 (Rd.of_owns ho)
 clear hlm ho
 go_enter Try.func12, Try.ntmps12
 go_wp2_with fail
 refine (zhY g lb q a m c l w eg HL.out (by unfold maxLen; omega) HRD.out (fun o w' _ => hp o w')).mono ?_
 rintro e w1 ⟨r, rfl, hf, hb⟩
 have HB := xH1 hb
 clear hb
 rcases hf with ⟨rfl, hall⟩ | ⟨i, rfl, hi, hq, hall⟩
 ·have HALL := xH1 hall
  clear hall
  go_wp2
  go_ret
  refine ⟨m, c, rfl, ?_, zbz HB.out⟩
  rw [zfR.none HALL.out]
  exact zj HO.out HB.out
 ·obtain ⟨X, rfl, -, -⟩ := zaT HO.out (by have := HL.out; omega)
  have h0 := zbM.start hi hq hall
  have HM := xH1 h0
  have hc2 := HO.out.2
  have hmc : m ≤ c ∧ c ≤ maxLen := by
   obtain ⟨cur, hf, htk, hnc, hcm, hcl⟩ := zdd HO.out
   exact ⟨hnc, hcm⟩
  have hmc1 := hmc.1
  have hmc2 : c ≤ 9223372036854775807 := hmc.2
  have hi' : i < m := by have := HL.out; omega
  have t0 : ((i : Int) == -1) = false := by simp
  have t1 : ((i : Int) == (-1)) = false := by simp
  clear hq hall h0 hmc hc2 hi
  go_wp2
  go_loopw [5, 6] (fun vi vj wr => ∃ (i j : Nat) (cs : List Value), vi = .int .i64 i ∧ vj = .int .i64 j ∧ j ≤ m ∧ i < j ∧ Hid (zbM (fun o => !(q o)) l i j cs) ∧ wr.ownsRow 0 44 3 (.slice (some ⟨X, 0, none⟩) m c) m cs ∧ w.grownBy wr (some X)) (fun _ vj _ => m - (intOf vj).toNat)
  case atStart => exact ⟨i, i + 1, opsV l, rfl, by go_num, by omega, by omega, HM, zj HO.out HB.out, zbz HB.out⟩
  case round =>
   obtain ⟨i, j, cs, rfl, rfl, hjm, hij, hmid, hown, hg⟩ := hrel
   by_cases hlt : j < m
   ·obtain ⟨x, hx⟩ : ∃ x, x = l.getD j noOp := ⟨_, rfl⟩
    have hcl : cs.length = m * 3 := hown.1
    have hx0 := hmid.out.get (by have := HL.out; omega) 0 (by decide)
    have hx1 := hmid.out.get (by have := HL.out; omega) 1 (by decide)
    have hx2 := hmid.out.get (by have := HL.out; omega) 2 (by decide)
    rw [← hx] at hx0 hx1 hx2
    have g0 : wr.cell? ⟨X, j * 3, none⟩ = some (.int .i64 x.kind) := by rw [hown.cellAt _ (by omega)]; exact hx0
    have g1 : wr.cell? ⟨X, j * 3 + 1, none⟩ = some (.int .i64 x.on) := by rw [hown.cellAt _ (by omega)]; exact hx1
    have g2 : wr.cell? ⟨X, j * 3 + 2, none⟩ = some (.int .i64 x.arg) := by rw [hown.cellAt _ (by omega)]; exact hx2
    have bA : Below wr.heap.size wr (wr.alloc (.cells #[.int .i64 x.kind, .int .i64 x.on, .int .i64 x.arg] 44)) := xA1
    have kA : Blk (wr.alloc (.cells #[.int .i64 x.kind, .int .i64 x.on, .int .i64 x.arg] 44)) wr.heap.size #[.int .i64 x.kind, .int .i64 x.on, .int .i64 x.arg] 44 := Blk.new _ _ _
    have ho1 := zj hown bA
    have hXl := (zG hown X rfl).2
    have HX := xH1 hx
    have HBA := xH1 bA
    have HG := xH1 hg
    have HO1 := xH1 ho1
    clear hx hx0 hx1 hx2 hown bA hg ho1
    rcases Bool.eq_false_or_eq_true (q x) with hq | hq
    ·have HQ := xH1 hq
     clear hq
     go_wp2_with (go_at_fn g; refine (hp x _).mono ?_; rintro e w2 ⟨rfl, hb2⟩; rw [HQ.out]; have HB2 := xH1 hb2; clear hb2)
     go_roundw
     case rel =>
      have hb := HBA.out.trans (HB2.out.mono HBA.out.size)
      exact ⟨i, j + 1, cs, rfl, by go_num, by omega, by omega, xH1 (hmid.out.skip (by have := HL.out; omega) (by rw [← HX.out, HQ.out]; rfl)), zj HO1.out HB2.out, zh HG.out (zbz hb)⟩
     case measure => simp [intOf]; omega
    ·have HQ := xH1 hq
     clear hq
     have i0 : (0 : Int) ≤ (i : Int) := by omega
     have i1 : (i : Int) < (m : Int) := by omega
     go_wp2_with (go_at_fn g; refine (hp x _).mono ?_; rintro e w2 ⟨rfl, hb2⟩; rw [HQ.out]; have kA2 := kA.below hb2; have y0 := kA2.cell 0 rfl; have y1 := kA2.cell 1 rfl; have y2 := kA2.cell 2 rfl; have ho2 := zj HO1.out hb2; have z0 := ho2.cellAt (i * 3) (by omega); have z1 := ho2.cellAt (i * 3 + 1) (by omega); have z2 := ho2.cellAt (i * 3 + 2) (by omega); rw [List.getElem?_eq_getElem (by omega)] at z0 z1 z2; have f0 := ho2.frozenAt (i * 3); have f1 := ho2.frozenAt (i * 3 + 1); have f2 := ho2.frozenAt (i * 3 + 2); have HB2 := xH1 hb2; have HO2 := xH1 ho2; clear hb2 ho2 kA2)
     go_roundw
     case rel =>
      have hb := HBA.out.trans (HB2.out.mono HBA.out.size)
      have R1 := zb9 HO2.out (i * 3) (.int .i64 x.kind) rfl
      have R2 := zb9 R1.1 (i * 3 + 1) (.int .i64 x.on) rfl
      have R3 := zb9 R2.1 (i * 3 + 2) (.int .i64 x.arg) rfl
      have hk := hmid.out.keep (by have := HL.out; omega) (by rw [← HX.out, HQ.out]; rfl)
      rw [← HX.out] at hk
      exact ⟨i + 1, j + 1, _, by go_num, by go_num, by omega, by omega, xH1 hk, R3.1, zh HG.out (zh (zbz hb) (zh R1.2 (zh R2.2 R3.2)))⟩
     case measure => simp [intOf]; omega
   ·have hjm' : j = m := by omega
    subst hjm'
    have i0 : (0 : Int) ≤ (i : Int) := by omega
    have i1 : (i : Int) ≤ (j : Int) := by omega
    have i2 : (i : Int) ≤ (c : Int) := by omega
    have i3 : (j : Int) ≤ (c : Int) := by omega
    have n0 : ¬ c = i := by omega
    obtain ⟨cur, hf, htk, hnc, hcm, hcl⟩ := zdd hown
    have hcl2 : cs.length = j * 3 := hown.1
    have hsp : (j - i) * 3 + i * 3 = j * 3 := by omega
    have hjc : j * 3 ≤ c * 3 := Nat.mul_le_mul_right 3 hmc1
    have hclr : ∀ ty, (Builtin.clear_ #[42] ty #[.slice (some ⟨X, i * 3, none⟩) (j - i) (c - i)]).run Try.prog wr = .ok (.tuple #[]) (wr.setCells X (i * 3) (List.replicate ((j - i) * 3) (.int .i64 0))) := fun ty =>
     zhB wr 42 44 ty Try.underlying42 (fun _ => by kernel_rfl) X (i * 3) (j - i) (c - i) (by omega) (fun t ht => by
      rw [hf.cellAt _ (by omega), List.getElem?_eq_getElem (by omega)]
      rfl) (fun t _ => hf.frozenAt _)
    have R := zb2 (List.replicate ((j - i) * 3) (.int .i64 0)) (i * 3) wr cur hf (by rw [List.length_replicate]; omega)
    have R2 := zfe R.1 (show i ≤ c by omega)
    have hd := hmid.out.done HL.out.symm
    have e5 : (over (i * 3) (List.replicate ((j - i) * 3) (Value.int .i64 0)) cur).take (i * 3) = opsV (l.filter (fun o => !(q o))) := by
     unfold over
     rw [List.append_assoc, List.take_append_of_le_length (by rw [List.length_take]; omega), List.take_take, Nat.min_self, ← hd.1, ← htk, List.take_take, Nat.min_eq_left (by omega)]
    rw [e5] at R2
    have HR2 := xH1 R2
    have HRG := xH1 (zh hg R.2)
    clear R R2 hd e5 htk hcl hcl2 hsp hf hown hg hnc hcm hjc
    go_wp2_with (at_builtin; refine wpList_clear_at rfl (.tmp 38) 42 rfl rfl hclr ?_)
    go_ret
    exact ⟨i, c, rfl, HR2.out, HRG.out⟩
end Go.Proofs.Ytppoohbkkdgljaa
