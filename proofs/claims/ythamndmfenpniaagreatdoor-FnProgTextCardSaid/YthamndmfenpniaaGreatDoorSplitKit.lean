/- The pieces of a text between separators that begin with a byte of their own, in the library's words: plain. -/
import Derived.Lib.Split
namespace Go.Proofs.YthamndmfenpniaaGreatDoor
open Go.Lib

theorem index_piece {sep : List UInt8} {c : UInt8} {t : List UInt8} (hs : sep = c :: t) (r : List UInt8) : ∀ x : List UInt8, c ∉ x → index (x ++ (sep ++ r)) sep = x.length
  | [], _ => by
    subst hs
    show (if (c :: t).isPrefixOf (c :: (t ++ r)) then (0 : Int) else _) = 0
    rw [if_pos (by rw [List.isPrefixOf_iff_prefix]; exact ⟨r, rfl⟩)]
  | b :: x, h => by
    have ih := index_piece hs r x (fun e => h (List.mem_cons_of_mem _ e))
    have hb : (c == b) = false := by
      rw [beq_eq_false_iff_ne]
      exact fun e => h (by rw [e]; exact List.mem_cons_self)
    show (if sep.isPrefixOf (b :: (x ++ (sep ++ r))) then (0 : Int) else if index (x ++ (sep ++ r)) sep == -1 then -1 else index (x ++ (sep ++ r)) sep + 1) = _
    rw [if_neg (by rw [hs, List.isPrefixOf, hb]; simp), ih, if_neg (by simp), List.length_cons]
    omega
theorem index_absent {sep : List UInt8} {c : UInt8} {t : List UInt8} (hs : sep = c :: t) : ∀ x : List UInt8, c ∉ x → index x sep = -1
  | [], _ => by subst hs; rfl
  | b :: x, h => by
    have ih := index_absent hs x (fun e => h (List.mem_cons_of_mem _ e))
    have hb : (c == b) = false := by
      rw [beq_eq_false_iff_ne]
      exact fun e => h (by rw [e]; exact List.mem_cons_self)
    show (if sep.isPrefixOf (b :: x) then (0 : Int) else if index x sep == -1 then -1 else index x sep + 1) = _
    rw [if_neg (by rw [hs, List.isPrefixOf, hb]; simp), ih, if_pos (by decide)]
theorem countFrom_pieces {sep : List UInt8} {c : UInt8} {t : List UInt8} (hs : sep = c :: t) : ∀ (ys : List (List UInt8)) (x : List UInt8) (fuel : Nat), c ∉ x → (∀ y ∈ ys, c ∉ y) → ys.length < fuel → countFrom sep fuel (x ++ (ys.map (sep ++ ·)).flatten) = ys.length
  | [], x, fuel + 1, hx, _, _ => by
    show (if index (x ++ []) sep == -1 then 0 else _) = 0
    rw [List.append_nil, index_absent hs x hx, if_pos (by decide)]
  | y :: ys, x, fuel + 1, hx, h, hf => by
    have e : x ++ ((y :: ys).map (sep ++ ·)).flatten = x ++ (sep ++ (y ++ (ys.map (sep ++ ·)).flatten)) := by simp
    rw [e]
    show (if index (x ++ (sep ++ (y ++ (ys.map (sep ++ ·)).flatten))) sep == -1 then 0 else 1 + countFrom sep fuel ((x ++ (sep ++ (y ++ (ys.map (sep ++ ·)).flatten))).drop ((index (x ++ (sep ++ (y ++ (ys.map (sep ++ ·)).flatten))) sep).toNat + sep.length))) = _
    rw [index_piece hs _ x hx, if_neg (by simp), Int.toNat_natCast, ← List.append_assoc, List.drop_left' (by rw [List.length_append]), countFrom_pieces hs ys y fuel (h y List.mem_cons_self) (fun z hz => h z (List.mem_cons_of_mem _ hz)) (by rw [List.length_cons] at hf; omega), List.length_cons]
    omega
theorem splitK_pieces {sep : List UInt8} {c : UInt8} {t : List UInt8} (hs : sep = c :: t) : ∀ (ys : List (List UInt8)) (x : List UInt8), c ∉ x → (∀ y ∈ ys, c ∉ y) → splitK sep 0 ys.length (x ++ (ys.map (sep ++ ·)).flatten) = x :: ys
  | [], x, _, _ => by show [x ++ []] = [x]; rw [List.append_nil]
  | y :: ys, x, hx, h => by
    have e : x ++ ((y :: ys).map (sep ++ ·)).flatten = x ++ (sep ++ (y ++ (ys.map (sep ++ ·)).flatten)) := by simp
    rw [e]
    show (if index (x ++ (sep ++ (y ++ (ys.map (sep ++ ·)).flatten))) sep == -1 then [x ++ (sep ++ (y ++ (ys.map (sep ++ ·)).flatten))] else (x ++ (sep ++ (y ++ (ys.map (sep ++ ·)).flatten))).take ((index (x ++ (sep ++ (y ++ (ys.map (sep ++ ·)).flatten))) sep).toNat + 0) :: splitK sep 0 ys.length ((x ++ (sep ++ (y ++ (ys.map (sep ++ ·)).flatten))).drop ((index (x ++ (sep ++ (y ++ (ys.map (sep ++ ·)).flatten))) sep).toNat + sep.length))) = _
    rw [index_piece hs _ x hx, if_neg (by simp), Int.toNat_natCast, Nat.add_zero, List.take_left' rfl, ← List.append_assoc, List.drop_left' (by rw [List.length_append]), splitK_pieces hs ys y (h y List.mem_cons_self) (fun z hz => h z (List.mem_cons_of_mem _ hz))]
/-- strings.Split at pieces that hold nothing of the separator's first byte. -/
theorem split_pieces {sep : List UInt8} {c : UInt8} {t : List UInt8} (hs : sep = c :: t) (ys : List (List UInt8)) (x : List UInt8) (hx : c ∉ x) (h : ∀ y ∈ ys, c ∉ y) : count (x ++ (ys.map (sep ++ ·)).flatten) sep = ys.length ∧ split (x ++ (ys.map (sep ++ ·)).flatten) sep = x :: ys := by
  have hl : ∀ zs : List (List UInt8), zs.length ≤ ((zs.map (sep ++ ·)).flatten).length := fun zs => by
    induction zs with
    | nil => exact Nat.le_refl _
    | cons z zs ih =>
      rw [List.map_cons, List.flatten_cons, List.length_append, List.length_append, List.length_cons, hs, List.length_cons]
      rw [hs] at ih
      omega
  have hc : count (x ++ (ys.map (sep ++ ·)).flatten) sep = ys.length := countFrom_pieces hs ys x _ hx h (by
    have := hl ys
    rw [List.length_append]
    omega)
  refine ⟨hc, ?_⟩
  unfold split
  rw [hc]
  exact splitK_pieces hs ys x hx h
end Go.Proofs.YthamndmfenpniaaGreatDoor
