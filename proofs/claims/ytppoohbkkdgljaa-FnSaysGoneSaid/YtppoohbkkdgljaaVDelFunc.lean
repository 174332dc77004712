/- Part of a proof: DelFunc. -/
import Derived.Test.YtppoohbkkdgljaaVRowKit
set_option maxRecDepth 100000
set_option maxHeartbeats 16000000
namespace Go.Proofs.Ytppoohbkkdgljaa
open Go.RowKit
def zfR (q : OpD → Bool) (l : List OpD) (r : Int) : Prop :=
 (r = -1 ∧ ∀ j, j < l.length → q (l.getD j noOp) = false) ∨ ∃ i : Nat, r = i ∧ i < l.length ∧ q (l.getD i noOp) = true ∧ ∀ j, j < i → q (l.getD j noOp) = false
abbrev ziQ (o : OpD) : Value := .agg #[.int .i64 o.kind, .int .i64 o.on, .int .i64 o.arg]
theorem zhY (g : Nat) (lb : Array Value) (q : OpD → Bool) (a : Option Addr) (n c : Nat) (l : List OpD) (w : World) (eg : ∀ args w, (callFunc g args).run Try.prog w = .ok (.enter g args) w)
  (hl : l.length = n) (hn : n ≤ maxLen) (hr : Rd w a (opsV l)) (hp : ∀ o w', Below w.heap.size w w' → Calls Try.prog g (#[ziQ o] ++ lb) w' fun e w2 => e = .returned (.bool (q o)) ∧ Below w'.heap.size w' w2) :
  Calls Try.prog 29 #[.slice a n c, .func (.func g) #[] lb] w fun e w' => ∃ r : Int, e = .returned (.int .i64 r) ∧ zfR q l r ∧ Below w.heap.size w w' := by
 unfold maxLen at hn
 have HL := xH1 hl
 clear hl
 go_enter Try.func29, Try.ntmps29
 go_wp2
 go_loopw [8] (fun i wr => ∃ k : Nat, k ≤ n ∧ i = .int .i64 k ∧ Hid (∀ j, j < k → q (l.getD j noOp) = false) ∧ Below w.heap.size w wr) (fun i _ => n - (intOf i).toNat)
 case atStart => exact ⟨0, by omega, rfl, xH1 (by omega), Below.refl _ _⟩
 case round =>
  obtain ⟨k, hk, rfl, hall, hb⟩ := hrel
  by_cases hlt : k < n
  ·obtain ⟨b, o, rfl, hc⟩ := (hr.below hb).op (by have := HL.out; omega)
   obtain ⟨g1a, g1b, g1c⟩ := hc k (by have := HL.out; omega)
   obtain ⟨x, hx⟩ : ∃ x, x = l.getD k noOp := ⟨_, rfl⟩
   rw [← hx] at g1a g1b g1c
   have HX := xH1 hx
   have HB := xH1 hb
   clear hc hx hb
   rcases Bool.eq_false_or_eq_true (q x) with hq | hq
   ·have HQ := xH1 hq
    clear hq
    go_wp2_with (go_at_fn g; refine (hp x _ HB.out).mono ?_; rintro e w2 ⟨rfl, hb2⟩; rw [HQ.out])
    go_ret
    exact ⟨k, rfl, .inr ⟨k, rfl, by have := HL.out; omega, by rw [← HX.out]; exact HQ.out, hall.out⟩, HB.out.trans (hb2.mono HB.out.size)⟩
   ·have HQ := xH1 hq
    clear hq
    go_wp2_with (go_at_fn g; refine (hp x _ HB.out).mono ?_; rintro e w2 ⟨rfl, hb2⟩; rw [HQ.out])
    go_roundw
    case rel => exact ⟨k + 1, by omega, by go_num, xH1 (fun j hj => by
     rcases Nat.lt_or_ge j k with h | h
     ·exact hall.out j h
     ·have : j = k := by omega
      subst this
      rw [← HX.out]; exact HQ.out), HB.out.trans (hb2.mono HB.out.size)⟩
    case measure => simp [intOf]; omega
  ·have hkm : k = n := by omega
   subst hkm
   go_wp2
   go_ret
   exact ⟨-1, rfl, .inl ⟨rfl, by rw [HL.out]; exact hall.out⟩, hb⟩
theorem zcp (q : OpD → Bool) (l : List OpD) (k : Nat) (hk : k < l.length) : (l.take (k + 1)).filter q = (l.take k).filter q ++ if q (l.getD k noOp) = true then [l.getD k noOp] else [] := by
 rw [List.take_add_one, List.getElem?_eq_getElem hk, List.filter_append]
 have e : l.getD k noOp = l[k] := by simp [List.getD, hk]
 rw [e]
 cases h : q l[k] <;> simp [h]
theorem zfR.none {q : OpD → Bool} {l : List OpD} (h : ∀ j, j < l.length → q (l.getD j noOp) = false) : l.filter (fun o => !(q o)) = l := by
 rw [List.filter_eq_self]
 intro x hx
 obtain ⟨i, hi, rfl⟩ := List.mem_iff_getElem.1 hx
 have := h i hi
 have e : l.getD i noOp = l[i] := by simp [List.getD, hi]
 rw [e] at this
 simp [this]
theorem zhB {P : Program} (w : World) (t e ty : TypeId) (ht : P.underlying t = some (.slice e)) (hv : ∀ w, (zeroValue e).run P w = .ok (.agg #[.int .i64 0, .int .i64 0, .int .i64 0]) w) (b o k c : Nat) (hk : 0 < k)
  (hc : ∀ j, j < k * 3 → (w.cell? ⟨b, o + j, none⟩).isSome = true) (hf : ∀ j, j < k * 3 → w.frozen? ⟨b, o + j, none⟩ = false) :
  (Builtin.clear_ #[t] ty #[.slice (some ⟨b, o, none⟩) k c]).run P w = .ok (.tuple #[]) (w.setCells b o (List.replicate (k * 3) (.int .i64 0))) := by
 have hzc : (Builtin.zeroCells (Value.cells (.agg #[.int .i64 0, .int .i64 0, .int .i64 0])) k).toList = List.replicate (k * 3) (.int .i64 0) := by
  apply List.ext_getElem
  ·simp [Builtin.zeroCells, Value.cells]
  ·intro i h1 h2
   have h3 : i % 3 < 3 := Nat.mod_lt _ (by decide)
   have : ∀ r, r < 3 → (#[Value.int .i64 0, .int .i64 0, .int .i64 0] : Array Value)[r]! = .int .i64 0 := by
    intro r hr
    match r, hr with
    | 0, _ => rfl
    | 1, _ => rfl
    | 2, _ => rfl
   simp only [List.getElem_replicate]
   simpa [Builtin.zeroCells, Value.cells] using this _ h3
 have hst := run_storeCells_cells (P := P) b o (List.replicate (k * 3) (.int .i64 0)) 0 w (by simpa using hc) (by simpa using hf) (by intro v hv'; rw [List.eq_of_mem_replicate hv']; rfl)
 simp only [Nat.add_zero] at hst
 obtain ⟨k', rfl⟩ : ∃ k', k = k' + 1 := ⟨k - 1, by omega⟩
 simp [Builtin.clear_, run_underlying ht, hv, hzc, hst]
end Go.Proofs.Ytppoohbkkdgljaa
