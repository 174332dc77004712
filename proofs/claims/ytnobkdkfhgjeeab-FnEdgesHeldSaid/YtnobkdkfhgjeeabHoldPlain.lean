/- HoldEdges: what is gathered in turn, sorted and compacted is what the reference gathers. No program in sight. -/
import Derived.Test.YtnobkdkfhgjeeabHoldSpec
namespace Go.Proofs.Ytnobkdkfhgjeeab

def putsRaw (h : List Int) (on : Int) (out : Es) : Nat → Es
  | 0 => out
  | s + 1 => if 0 < h.getD s 0 then putsRaw h on out s ++ [((s : Int), on)] else putsRaw h on out s
def hOutR (h : List Int) (o : OpD) (out : Es) : Es := if o.kind = 2 then putsRaw h o.on out h.length else out
def hToR (n : Nat) (out : Es) (t : List OpD) : Nat → List Int × Es
  | 0 => (List.replicate n 0, out)
  | k + 1 => (hStep (hToR n out t k).1 (t.getD k noOp), hOutR (hToR n out t k).1 (t.getD k noOp) (hToR n out t k).2)
def rawTo (p : Pg) : Nat → Es
  | 0 => []
  | i + 1 => (hToR p.sems.length (rawTo p i) (p.threads.getD i []) (p.threads.getD i []).length).2
def gather (l : Es) : Es := l.foldl putE []
theorem gather_snoc (l : Es) (e : Int × Int) : gather (l ++ [e]) = putE (gather l) e := by simp [gather, List.foldl_append]
theorem puts_gather (h : List Int) (on : Int) (out : Es) : ∀ s, putsTo h on (gather out) s = gather (putsRaw h on out s)
  | 0 => rfl
  | s + 1 => by
    unfold putsTo putsRaw
    rw [puts_gather h on out s]
    split
    · rw [gather_snoc]
    · rfl
theorem hOut_gather (h : List Int) (o : OpD) (out : Es) : hOut h o (gather out) = gather (hOutR h o out) := by
  unfold hOut hOutR
  split
  · exact puts_gather h o.on out h.length
  · rfl
theorem hTo_gather (n : Nat) (out : Es) (t : List OpD) : ∀ k, hTo n (gather out) t k = ((hToR n out t k).1, gather (hToR n out t k).2)
  | 0 => rfl
  | k + 1 => by
    show (hStep _ _, hOut _ _ _) = _
    rw [hTo_gather n out t k]
    exact congrArg (Prod.mk _) (hOut_gather _ _ _)
theorem hAll_gather (p : Pg) : ∀ i, hAll p i = gather (rawTo p i)
  | 0 => rfl
  | i + 1 => by
    show (hTo _ _ _ _).2 = _
    rw [hAll_gather p i, hTo_gather]
    rfl
theorem putsRaw_len (h : List Int) (on : Int) (out : Es) : ∀ s, (putsRaw h on out s).length ≤ out.length + s
  | 0 => Nat.le_refl _
  | s + 1 => by
    have := putsRaw_len h on out s
    unfold putsRaw
    split
    · simp; omega
    · omega
theorem hToR_fst (n : Nat) (out out' : Es) (t : List OpD) : ∀ k, (hToR n out t k).1 = (hTo n out' t k).1
  | 0 => rfl
  | k + 1 => by
    show hStep _ _ = hStep _ _
    rw [hToR_fst n out out' t k]
theorem hToR_held (n : Nat) (out : Es) (t : List OpD) (k : Nat) : (hToR n out t k).1.length = n := by rw [hToR_fst n out out t k, hTo_held]
theorem hToR_len (n : Nat) (out : Es) (t : List OpD) : ∀ k, (hToR n out t k).2.length ≤ out.length + k * n
  | 0 => by simp [hToR]
  | k + 1 => by
    have h1 := hToR_len n out t k
    have h2 := hToR_held n out t k
    show (hOutR _ _ _).length ≤ _
    unfold hOutR
    split
    · have := putsRaw_len (hToR n out t k).1 (t.getD k noOp).on (hToR n out t k).2 (hToR n out t k).1.length
      rw [Nat.add_mul]; omega
    · rw [Nat.add_mul]; omega
theorem rawTo_len {p : Pg} (h : progValid p = true) : ∀ i, (rawTo p i).length ≤ i * 24
  | 0 => by simp [rawTo]
  | i + 1 => by
    have h1 := rawTo_len h i
    have h2 := hToR_len p.sems.length (rawTo p i) (p.threads.getD i []) (p.threads.getD i []).length
    have h3 := (valid_sems h).1
    have h4 := thr_8 h i
    have h5 : (p.threads.getD i []).length * p.sems.length ≤ 8 * 3 := Nat.mul_le_mul h4 h3
    show (hToR _ _ _ _).2.length ≤ _
    omega

theorem ltE_iff {e f : Int × Int} : ltE e f = true ↔ e.1 < f.1 ∨ (e.1 = f.1 ∧ e.2 < f.2) := by simp [ltE]
theorem ltE_irr (e : Int × Int) : ¬ ltE e e = true := by rw [ltE_iff]; omega
theorem ltE_trans {e f g : Int × Int} (h1 : ltE e f = true) (h2 : ltE f g = true) : ltE e g = true := by rw [ltE_iff] at *; omega
theorem ltE_tri (e f : Int × Int) : ltE e f = true ∨ e = f ∨ ltE f e = true := by
  rw [ltE_iff, ltE_iff, Prod.ext_iff]; omega
abbrev SortedE (l : Es) : Prop := l.Pairwise fun x y => ltE x y = true
theorem sorted_ext : ∀ {l m : Es}, SortedE l → SortedE m → (∀ x, x ∈ l ↔ x ∈ m) → l = m
  | [], [], _, _, _ => rfl
  | [], y :: ys, _, _, h => absurd ((h y).2 (by simp)) (by simp)
  | x :: xs, [], _, _, h => absurd ((h x).1 (by simp)) (by simp)
  | x :: xs, y :: ys, hl, hm, h => by
    have hl' := List.pairwise_cons.1 hl
    have hm' := List.pairwise_cons.1 hm
    have e : x = y := by
      rcases List.mem_cons.1 ((h x).1 (by simp)) with e | e
      · exact e
      · rcases List.mem_cons.1 ((h y).2 (by simp)) with e2 | e2
        · exact e2.symm
        · exact absurd (ltE_trans (hm'.1 x e) (hl'.1 y e2)) (ltE_irr _)
    subst e
    rw [sorted_ext hl'.2 hm'.2 (fun z => ⟨fun hz => by
      rcases List.mem_cons.1 ((h z).1 (by simp [hz])) with e | e
      · subst e; exact absurd (hl'.1 z hz) (ltE_irr _)
      · exact e, fun hz => by
      rcases List.mem_cons.1 ((h z).2 (by simp [hz])) with e | e
      · subst e; exact absurd (hm'.1 z hz) (ltE_irr _)
      · exact e⟩)]

theorem putTo_spec (l : Es) (e : Int × Int) (hs : SortedE l) (hn : e ∉ l) : ∀ i, i ≤ l.length →
    SortedE (putTo l e i).1 ∧ (∀ x, x ∈ (putTo l e i).1 ↔ x ∈ l.take i ∨ ((putTo l e i).2 = true ∧ x = e)) ∧ ((putTo l e i).2 = true → ∀ y ∈ l.drop i, ltE e y = true) ∧ ((putTo l e i).2 = false → ∀ x ∈ l.take i, ltE x e = true)
  | 0, _ => by simp [putTo]
  | i + 1, hi => by
    obtain ⟨h1, h2, h3, h4⟩ := putTo_spec l e hs hn i (by omega)
    have hd : l.drop i = l.getD i (0, 0) :: l.drop (i + 1) := by
      rw [List.getD_eq_getElem?_getD, List.getElem?_eq_getElem (by omega), Option.getD_some, List.drop_eq_getElem_cons (by omega)]
    have ht : l.take (i + 1) = l.take i ++ [l.getD i (0, 0)] := by
      rw [List.take_add_one, List.getElem?_eq_getElem (by omega), List.getD_eq_getElem?_getD, List.getElem?_eq_getElem (by omega)]; rfl
    obtain ⟨y, hy⟩ : ∃ y, y = l.getD i (0, 0) := ⟨_, rfl⟩
    rw [← hy] at hd ht
    have hsp : SortedE (l.take i ++ l.drop i) := by rw [List.take_append_drop]; exact hs
    have hsp2 := List.pairwise_append.1 hsp
    have hty : ∀ x ∈ l.take i, ltE x y = true := fun x hx => hsp2.2.2 x hx y (by rw [hd]; simp)
    have hyd : ∀ z ∈ l.drop (i + 1), ltE y z = true := by
      have := hsp2.2.1
      rw [hd] at this
      exact (List.pairwise_cons.1 this).1
    have hey : e ≠ y := fun h => hn (by rw [h]; exact List.mem_of_mem_drop (by rw [hd]; simp : y ∈ l.drop i))
    unfold putTo
    rw [← hy, ht]
    cases hb : (putTo l e i).2 with
    | true =>
      have h3' := h3 hb
      simp only [Bool.not_true, Bool.false_and, Bool.false_eq_true, if_false, Bool.true_or, true_and, reduceCtorEq, false_imp_iff, and_true, forall_const, hb] at h2 ⊢
      refine ⟨?_, ?_, ?_⟩
      · refine List.pairwise_append.2 ⟨h1, by simp, fun x hx z hz => ?_⟩
        simp only [List.mem_singleton] at hz
        subst hz
        rcases (h2 x).1 hx with h | rfl
        · exact hty x h
        · exact h3' _ (by rw [hd]; simp)
      · intro x
        simp only [List.mem_append, List.mem_singleton, h2 x]
        constructor
        · rintro ((h | h) | h) <;> simp [h]
        · rintro ((h | h) | h) <;> simp [h]
      · intro z hz
        exact h3' z (by rw [hd]; simp [hz])
    | false =>
      have h4' := h4 hb
      simp only [hb, Bool.not_false, Bool.true_and, Bool.false_or, Bool.false_eq_true, false_and, or_false] at h2 ⊢
      cases hl : ltE e y with
      | true =>
        simp only [if_true, true_and, reduceCtorEq, false_imp_iff, and_true, forall_const]
        refine ⟨?_, ?_, ?_⟩
        · refine List.pairwise_append.2 ⟨List.pairwise_append.2 ⟨h1, by simp, fun x hx z hz => ?_⟩, by simp, fun x hx z hz => ?_⟩
          · simp only [List.mem_singleton] at hz
            subst hz
            exact h4' x ((h2 x).1 hx)
          · simp only [List.mem_singleton] at hz
            subst hz
            rcases List.mem_append.1 hx with h | h
            · exact hty x ((h2 x).1 h)
            · simp only [List.mem_singleton] at h; subst h; exact hl
        · intro x
          simp only [List.mem_append, List.mem_singleton, h2 x]
          constructor
          · rintro ((h | h) | h) <;> simp [h]
          · rintro ((h | h) | h) <;> simp [h]
        · intro z hz
          exact ltE_trans hl (hyd z hz)
      | false =>
        have hye : ltE y e = true := by
          rcases ltE_tri e y with h | h | h
          · rw [hl] at h; cases h
          · exact absurd h hey
          · exact h
        simp only [Bool.false_eq_true, if_false, false_and, or_false, false_imp_iff, true_and, forall_const]
        refine ⟨?_, ?_, ?_⟩
        · refine List.pairwise_append.2 ⟨h1, by simp, fun x hx z hz => ?_⟩
          simp only [List.mem_singleton] at hz
          subst hz
          exact hty x ((h2 x).1 hx)
        · intro x
          simp only [List.mem_append, List.mem_singleton, h2 x]
        · intro x hx
          rcases List.mem_append.1 hx with h | h
          · exact h4' x h
          · simp only [List.mem_singleton] at h; subst h; exact hye
theorem putE_spec {l : Es} {e : Int × Int} (hs : SortedE l) : SortedE (putE l e) ∧ ∀ x, x ∈ putE l e ↔ x ∈ l ∨ x = e := by
  unfold putE
  split
  · next h => exact ⟨hs, fun x => ⟨.inl, fun h' => h'.elim id (fun e' => by rw [e']; exact h)⟩⟩
  · next h =>
    obtain ⟨h1, h2, h3, h4⟩ := putTo_spec l e hs h l.length (Nat.le_refl _)
    rw [List.take_length] at h2 h4
    split
    · next hd => exact ⟨h1, fun x => by rw [h2 x, hd]; simp⟩
    · next hd =>
      have hd' : (putTo l e l.length).2 = false := by simpa using hd
      rw [hd'] at h2 h4
      refine ⟨List.pairwise_append.2 ⟨h1, by simp, fun x hx z hz => ?_⟩, fun x => ?_⟩
      · simp only [List.mem_singleton] at hz
        subst hz
        exact h4 rfl x (by simpa using (h2 x).1 hx)
      · simp only [List.mem_append, List.mem_singleton, h2 x]; simp
theorem gather_fold (l : Es) : ∀ m, SortedE m → SortedE (l.foldl putE m) ∧ ∀ x, x ∈ l.foldl putE m ↔ x ∈ m ∨ x ∈ l := by
  induction l with
  | nil => intro m h; exact ⟨h, fun x => by simp⟩
  | cons e l ih =>
    intro m h
    obtain ⟨h1, h2⟩ := putE_spec (e := e) h
    obtain ⟨h3, h4⟩ := ih _ h1
    refine ⟨h3, fun x => ?_⟩
    rw [List.foldl_cons, h4 x, h2 x, List.mem_cons]
    constructor
    · rintro ((h | h) | h) <;> simp [h]
    · rintro (h | h | h) <;> simp [h]
theorem gather_spec (l : Es) : SortedE (gather l) ∧ ∀ x, x ∈ gather l ↔ x ∈ l := by
  obtain ⟨h1, h2⟩ := gather_fold l [] List.Pairwise.nil
  exact ⟨h1, fun x => by rw [gather, h2 x]; simp⟩

/-- Neighbours that are alike are one. -/
def compTo (d : Es) : Nat → Es
  | 0 => []
  | k + 1 => if 0 < k ∧ d.getD k (0, 0) = d.getD (k - 1) (0, 0) then compTo d k else compTo d k ++ [d.getD k (0, 0)]
theorem compTo_len (d : Es) : ∀ k, (compTo d k).length ≤ k
  | 0 => Nat.le_refl _
  | k + 1 => by
    have := compTo_len d k
    unfold compTo
    split
    · omega
    · simp; omega
theorem compTo_spec {d : Es} (hd : ∀ i j, i < j → j < d.length → ¬ ltE (d.getD j (0, 0)) (d.getD i (0, 0)) = true) : ∀ k, k ≤ d.length → SortedE (compTo d k) ∧ ∀ x, x ∈ compTo d k ↔ ∃ j, j < k ∧ x = d.getD j (0, 0)
  | 0, _ => by simp [compTo]
  | k + 1, hk => by
    obtain ⟨h1, h2⟩ := compTo_spec hd k (by omega)
    unfold compTo
    split
    · next hc =>
      refine ⟨h1, fun x => ?_⟩
      rw [h2 x]
      constructor
      · rintro ⟨j, hj, e⟩; exact ⟨j, by omega, e⟩
      · rintro ⟨j, hj, e⟩
        by_cases h : j < k
        · exact ⟨j, h, e⟩
        · obtain rfl : j = k := by omega
          exact ⟨j - 1, by omega, by rw [e, hc.2]⟩
    · next hc =>
      refine ⟨List.pairwise_append.2 ⟨h1, by simp, fun x hx z hz => ?_⟩, fun x => ?_⟩
      · simp only [List.mem_singleton] at hz
        subst hz
        obtain ⟨j, hj, rfl⟩ := (h2 x).1 hx
        rcases ltE_tri (d.getD j (0, 0)) (d.getD k (0, 0)) with h | h | h
        · exact h
        · exfalso
          refine hc ⟨by omega, ?_⟩
          by_cases hj1 : j = k - 1
          · rw [← hj1, h]
          · have a1 := hd j (k - 1) (by omega) (by omega)
            have a2 := hd (k - 1) k (by omega) (by omega)
            rw [h] at a1
            rcases ltE_tri (d.getD k (0, 0)) (d.getD (k - 1) (0, 0)) with h' | h' | h'
            · exact absurd h' a2
            · exact h'
            · exact absurd h' a1
        · exact absurd h (hd j k hj (by omega))
      · simp only [List.mem_append, List.mem_singleton, h2 x]
        constructor
        · rintro (⟨j, hj, e⟩ | e)
          · exact ⟨j, by omega, e⟩
          · exact ⟨k, by omega, e⟩
        · rintro ⟨j, hj, e⟩
          by_cases h : j < k
          · exact .inl ⟨j, h, e⟩
          · obtain rfl : j = k := by omega
            exact .inr e
/-- What is sorted and compacted is what is gathered. -/
theorem comp_gather {l d : Es} (hp : ∀ x, x ∈ d ↔ x ∈ l) (hd : ∀ i j, i < j → j < d.length → ¬ ltE (d.getD j (0, 0)) (d.getD i (0, 0)) = true) : compTo d d.length = gather l := by
  obtain ⟨h1, h2⟩ := compTo_spec hd d.length (Nat.le_refl _)
  obtain ⟨h3, h4⟩ := gather_spec l
  refine sorted_ext h1 h3 (fun x => ?_)
  rw [h2 x, h4 x, ← hp x, List.mem_iff_getElem]
  constructor
  · rintro ⟨j, hj, e⟩; exact ⟨j, hj, by rw [e]; simp [List.getD, hj]⟩
  · rintro ⟨j, hj, e⟩; exact ⟨j, hj, by rw [← e]; simp [List.getD, hj]⟩

end Go.Proofs.Ytnobkdkfhgjeeab
