/- A region that draws its order, in which at most two calls draw from one reader. -/
import Derived.Test.YthamndmfenpniaaGreatDoorBaseD
namespace Go.Proofs.YthamndmfenpniaaGreatDoor
open Go.RowKit

def GR (R : Nat) (a : Option Addr) (n c : Nat) (bs : List Int) (G0 : World) (P0 K : Int) (i1 i2 : Nat) (L : Nat → Bool) (w : World) : Prop :=
  G0.grownBy w (some R) ∧ ∃ pos, Rdr w R a n c bs pos ∧ pos ≤ P0 + (if L i1 = true then K else 0) + (if L i2 = true then K else 0)
def StabAllR (T : World → World → Prop) : List (List Value → Value → World → Prop) → Prop
  | [] => True
  | r :: rs => StabBy T r ∧ StabAllR T rs
theorem stabR_at {T : World → World → Prop} : ∀ {Rs : List (List Value → Value → World → Prop)}, StabAllR T Rs → ∀ j ds v w w', T w w' → at' Rs j ds v w → at' Rs j ds v w'
  | [], _, _, _, _, _, _, _, _ => trivial
  | _ :: _, h, 0, ds, v, w, w', hT, hr => h.1 ds v w w' hT hr
  | _ :: rs, h, j + 1, ds, v, w, w', hT, hr => stabR_at (Rs := rs) h.2 j ds v w w' hT hr
theorem stabR_of {T : World → World → Prop} {Rs : List (List Value → Value → World → Prop)} (h : StabAllR T Rs) : ∀ (i j : Nat) ds v w w', i ≠ j → T w w' → at' Rs j ds v w → at' Rs j ds v w' :=
  fun _ j ds v w w' _ hT hr => stabR_at h j ds v w w' hT hr
section
variable {R : Nat} {a : Option Addr} {n c : Nat} {bs : List Int} {G0 : World} {P0 K : Int} {i1 i2 : Nat}
theorem GR.start {q : Int} (h : Rdr G0 R a n c bs q) (hq : q ≤ P0) : ∀ L : Nat → Bool, (∀ j, L j = false) → GR R a n c bs G0 P0 K i1 i2 L G0.drew := fun L hL =>
  ⟨grown_drew _ _, q, h.below (Below.refl _ _).drew, by rw [hL, hL]; simpa using hq⟩
theorem GR.same {L : Nat → Bool} {w : World} (hK : 0 ≤ K) (h : GR R a n c bs G0 P0 K i1 i2 L w) (i : Nat) : GR R a n c bs G0 P0 K i1 i2 (fun j => decide (j = i) || L j) w := by
  obtain ⟨h1, pos, h2, h3⟩ := h
  refine ⟨h1, pos, h2, Int.le_trans h3 ?_⟩
  have z : ∀ k : Nat, (if L k = true then K else 0) ≤ (if (decide (k = i) || L k) = true then K else 0) := fun k => by
    cases hl : L k <;> cases hd : decide (k = i) <;> simp [hK]
  have a1 := z i1
  have a2 := z i2
  show P0 + (if L i1 = true then K else 0) + (if L i2 = true then K else 0) ≤ P0 + (if (decide (i1 = i) || L i1) = true then K else 0) + (if (decide (i2 = i) || L i2) = true then K else 0)
  omega
theorem GR.call {L : Nat → Bool} {w w' : World} (hK : 0 ≤ K) (h : GR R a n c bs G0 P0 K i1 i2 L w) {i : Nat} (hi : (i = i1 ∨ i = i2) ∧ i1 ≠ i2) (hL : L i = false) {pos pos' : Int} (hpos : pos ≤ P0 + (if L i1 = true then K else 0) + (if L i2 = true then K else 0)) (hr : Rdr w' R a n c bs pos') (hp : pos' ≤ pos + K) (hg : w.grownBy w' (some R)) :
    GR R a n c bs G0 P0 K i1 i2 (fun j => decide (j = i) || L j) w' := by
  refine ⟨grown_trans h.1 hg, pos', hr, ?_⟩
  have z : ∀ k : Nat, (if L k = true then K else 0) ≤ (if (decide (k = i) || L k) = true then K else 0) := fun k => by
    cases hl : L k <;> cases hd : decide (k = i) <;> simp [hK]
  have a1 := z i1
  have a2 := z i2
  have zi : (if L i = true then K else 0) = 0 := by rw [hL]; rfl
  have zi' : (if (decide (i = i) || L i) = true then K else 0) = K := by simp
  show pos' ≤ P0 + (if (decide (i1 = i) || L i1) = true then K else 0) + (if (decide (i2 = i) || L i2) = true then K else 0)
  rcases hi.1 with rfl | rfl
  · rw [zi] at hpos
    rw [zi']
    omega
  · rw [zi] at hpos
    rw [zi']
    omega
end

end Go.Proofs.YthamndmfenpniaaGreatDoor
