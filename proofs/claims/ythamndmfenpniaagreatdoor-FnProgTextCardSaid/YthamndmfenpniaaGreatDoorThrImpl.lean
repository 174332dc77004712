/- What the program's parseThread reads of a valid thread's line: plain. -/
import Derived.Test.YthamndmfenpniaaGreatDoorOpImpl
import Derived.Test.YthamndmfenpniaaGreatDoorSplitKit
import Derived.Test.YthamndmfenpniaaGreatDoorRdText2
namespace Go.Proofs.YthamndmfenpniaaGreatDoor
open Go.RowKit

def commaSpB : ByteArray := ⟨#[44, 32]⟩
/-- strings.Split. -/
def pieceB (s sep : ByteArray) : List ByteArray := Lib.splitB sep 0 (Lib.countB s sep) s
theorem pieceB_toL {s sep : ByteArray} {c : UInt8} {t : List UInt8} {x : List UInt8} {ys : List (List UInt8)} (hs : toL sep = c :: t) (h : toL s = x ++ (ys.map (toL sep ++ ·)).flatten) (hx : c ∉ x) (hy : ∀ y ∈ ys, c ∉ y) : (pieceB s sep).map toL = x :: ys := by
  have h1 := split_pieces hs ys x hx hy
  have h2 := Lib.splitB_data sep 0 (Lib.countB s sep) s
  have h3 : Lib.countB s sep = ys.length := by
    have := h1.1
    rw [← h] at this
    exact this
  have h4 := h1.2
  unfold Lib.split at h4
  rw [h1.1, ← h] at h4
  rw [h3] at h2
  unfold pieceB
  rw [h3]
  exact h2.trans h4
def opsI : List ByteArray → Option (List OpD)
  | [] => some []
  | x :: r => match opI (pieceB x spB) with
    | none => none
    | some o => (opsI r).map (o :: ·)
def thrI (line : ByteArray) : Option (List OpD) :=
  if line = threadB then some []
  else if 7 ≤ line.size ∧ line.extract 0 7 = threadSpB then opsI (pieceB (line.extract 7 line.size) commaSpB)
  else none
theorem op_pieces {p : Pg} (hv : progValid p = true) {o : OpD} (h : opValid p o = true) : pieceB (fmtOp o) spB = wordsOp o := by
  obtain ⟨hk, hon, harg⟩ := opValid_facts h
  obtain ⟨⟨b1, b2⟩, b3, b4⟩ := valid_bounds hv h
  obtain ⟨⟨w32, -, -⟩, -, -⟩ := word_facts hk.1 hk.2
  have a32 := (dec_facts b3 b4).2.1.1
  have o32 := (dec_facts (n := o.on) (by omega) (by omega)).2.1.1
  have hsp : toL spB = 32 :: [] := rfl
  unfold fmtOp wordsOp
  rw [if_pos ⟨hk.1, hk.2⟩]
  rcases argsN_cases o.kind with ha | ha | ha
  · rw [if_pos ha, if_pos ha]
    refine maps_inj ((pieceB_toL (x := toL (wordB o.kind)) (ys := [toL (decI o.arg)]) hsp ?_ w32 (fun y hy => by obtain rfl := List.mem_singleton.1 hy; exact a32)).trans rfl)
    simp
  · rw [if_neg (by omega), if_pos ha, if_neg (by omega), if_pos ha]
    refine maps_inj ((pieceB_toL (x := toL (wordB o.kind)) (ys := [toL (decI o.on)]) hsp ?_ w32 (fun y hy => by obtain rfl := List.mem_singleton.1 hy; exact o32)).trans rfl)
    simp
  · rw [if_neg (by omega), if_neg (by omega), if_neg (by omega), if_neg (by omega)]
    refine maps_inj ((pieceB_toL (x := toL (wordB o.kind)) (ys := [toL (decI o.on), toL (decI o.arg)]) hsp ?_ w32 (fun y hy => by
      rcases List.mem_cons.1 hy with rfl | hy
      · exact o32
      · obtain rfl := List.mem_singleton.1 hy; exact a32)).trans rfl)
    simp
theorem opsI_own {p : Pg} (hv : progValid p = true) : ∀ t : List OpD, (∀ o ∈ t, opValid p o = true) → opsI (t.map fmtOp) = some t
  | [], _ => rfl
  | o :: r, h => by
    have ho := h o List.mem_cons_self
    show (match opI (pieceB (fmtOp o) spB) with | none => none | some o => (opsI (r.map fmtOp)).map (o :: ·)) = _
    rw [op_pieces hv ho, opI_own hv ho, opsI_own hv r (fun x hx => h x (List.mem_cons_of_mem _ hx))]
    rfl
theorem thrI_own {p : Pg} (hv : progValid p = true) {t : List OpD} (ho : ∀ o ∈ t, opValid p o = true) : thrI (thrLine t) = some t := by
  cases t with
  | nil => exact if_pos rfl
  | cons o r =>
    have hT : toL (thrLine (o :: r)) = toL threadB ++ 32 :: (toL (fmtOp o) ++ (r.map fun x => 44 :: 32 :: toL (fmtOp x)).flatten) := by rw [toL_thrLine]; simp [opsL]
    obtain ⟨line, hline⟩ : ∃ x, x = thrLine (o :: r) := ⟨_, rfl⟩
    rw [← hline] at hT ⊢
    obtain ⟨rest, hrest⟩ : ∃ x, x = toL (fmtOp o) ++ (r.map fun x => 44 :: 32 :: toL (fmtOp x)).flatten := ⟨_, rfl⟩
    rw [← hrest] at hT
    have h6 : toL threadB = [116, 104, 114, 101, 97, 100] := rfl
    rw [h6] at hT
    have hsz : line.size = rest.length + 7 := by
      show (toL line).length = _
      rw [hT]
      simp only [List.length_append, List.length_cons, List.length_nil]
      omega
    have h7 : toL (line.extract 7 line.size) = rest := by
      rw [toL_extract, hT, hsz]
      show rest.take (rest.length + 7 - 7) = rest
      rw [Nat.add_sub_cancel, List.take_length]
    have hp : pieceB (line.extract 7 line.size) commaSpB = (o :: r).map fmtOp := maps_inj ((pieceB_toL (c := 44) (t := [32]) (x := toL (fmtOp o)) (ys := r.map fun x => toL (fmtOp x)) rfl (by
      rw [h7, hrest, List.map_map]
      rfl) (op_text hv (ho o List.mem_cons_self)).2.1.2 (fun y hy => by
        obtain ⟨x, hx, rfl⟩ := List.mem_map.1 hy
        exact (op_text hv (ho x (List.mem_cons_of_mem _ hx))).2.1.2)).trans (by rw [List.map_cons, List.map_cons, List.map_map]; rfl))
    unfold thrI
    rw [if_neg (fun e => by
      have := congrArg (fun x => (toL x).length) e
      rw [h6, hT] at this
      simp only [List.length_append, List.length_cons, List.length_nil] at this
      omega), if_pos ⟨by omega, toL_inj (by rw [toL_extract, hT]; rfl)⟩, hp, opsI_own hv _ ho]
end Go.Proofs.YthamndmfenpniaaGreatDoor
