/- Edges that lead in a circle: plain facts on lists of pairs. -/
import Derived.Test.YtklbjnphfpjgeaaEdges
namespace Go.Proofs.Ytklbjnphfpjgeaa

inductive Path (es : List (Int × Int)) : Int → Int → Prop
  | one {u v : Int} : (u, v) ∈ es → Path es u v
  | cons {u v x : Int} : (u, v) ∈ es → Path es v x → Path es u x

def Circ (es : List (Int × Int)) : Prop := ∃ u, Path es u u
noncomputable def circ (es : List (Int × Int)) : Bool := @decide (Circ es) (Classical.propDecidable _)
theorem circ_true {es : List (Int × Int)} (h : Circ es) : circ es = true := by unfold circ; simp [h]
theorem circ_false {es : List (Int × Int)} (h : ¬ Circ es) : circ es = false := by unfold circ; simp [h]
theorem circ_congr {es fs : List (Int × Int)} (h : Circ es ↔ Circ fs) : circ es = circ fs := by
  by_cases hc : Circ es
  · rw [circ_true hc, circ_true (h.1 hc)]
  · rw [circ_false hc, circ_false (fun e => hc (h.2 e))]

theorem Path.mono {es fs : List (Int × Int)} (hs : ∀ e ∈ es, e ∈ fs) {u v : Int} (h : Path es u v) : Path fs u v := by
  induction h with
  | one h => exact .one (hs _ h)
  | cons h _ ih => exact .cons (hs _ h) ih
theorem Path.trans {es : List (Int × Int)} {u v x : Int} (h : Path es u v) (k : Path es v x) : Path es u x := by
  induction h with
  | one h => exact .cons h k
  | cons h _ ih => exact .cons h (ih k)
theorem Path.first {es : List (Int × Int)} {u v : Int} (h : Path es u v) : ∃ x, (u, x) ∈ es := by
  cases h with
  | one h => exact ⟨_, h⟩
  | cons h _ => exact ⟨_, h⟩

/-- Does an edge of the list begin where this one ends? -/
def leads (es : List (Int × Int)) (e : Int × Int) : Bool := es.any fun f => f.1 == e.2
theorem leads_true {es : List (Int × Int)} {u v x : Int} (h : (v, x) ∈ es) : leads es (u, v) = true := by
  unfold leads; exact List.any_eq_true.2 ⟨_, h, by simp⟩
theorem leads_iff {es : List (Int × Int)} {e : Int × Int} : leads es e = true ↔ ∃ x, (e.2, x) ∈ es := by
  unfold leads
  constructor
  · intro h
    obtain ⟨f, hf, he⟩ := List.any_eq_true.1 h
    exact ⟨f.2, by have : f.1 = e.2 := by simpa using he
                   rw [← this]; exact hf⟩
  · rintro ⟨x, hx⟩
    exact List.any_eq_true.2 ⟨_, hx, by simp⟩
def prune (es : List (Int × Int)) : List (Int × Int) := es.filter (leads es)

theorem path_prune {es : List (Int × Int)} {u v : Int} (h : Path es u v) (hv : ∃ x, (v, x) ∈ es) : Path (prune es) u v := by
  induction h with
  | one h => obtain ⟨x, hx⟩ := hv; exact .one (List.mem_filter.2 ⟨h, leads_true hx⟩)
  | cons h k ih => obtain ⟨x, hx⟩ := k.first; exact .cons (List.mem_filter.2 ⟨h, leads_true hx⟩) (ih hv)
theorem circ_prune (es : List (Int × Int)) : circ (prune es) = circ es :=
  circ_congr ⟨fun ⟨u, h⟩ => ⟨u, h.mono fun _ he => (List.mem_filter.1 he).1⟩, fun ⟨u, h⟩ => ⟨u, path_prune h h.first⟩⟩

theorem nodup_sub_len {α : Type} [BEq α] [LawfulBEq α] : ∀ {xs ys : List α}, xs.Nodup → (∀ k ∈ xs, k ∈ ys) → xs.length ≤ ys.length
  | [], _, _, _ => Nat.zero_le _
  | x :: xs, ys, hn, hs => by
    simp only [List.nodup_cons] at hn
    have hx := hs x (by simp)
    have := nodup_sub_len (ys := ys.erase x) hn.2 (fun k hk => by
      have hne : k ≠ x := fun e => hn.1 (e ▸ hk)
      exact (List.mem_erase_of_ne hne).2 (hs k (by simp [hk])))
    rw [List.length_erase_of_mem hx] at this
    have := List.length_pos_of_mem hx
    simp only [List.length_cons]; omega

/-- A walk without end comes to one place twice. -/
theorem walk_circ {es : List (Int × Int)} (g : Nat → Int) (hg : ∀ i, (g i, g (i + 1)) ∈ es) : Circ es := by
  have path : ∀ d i, Path es (g i) (g (i + (d + 1))) := by
    intro d
    induction d with
    | zero => exact fun i => .one (hg i)
    | succ d ih => exact fun i => .cons (hg i) (by have := ih (i + 1); rwa [show i + 1 + (d + 1) = i + (d + 1 + 1) from by omega] at this)
  by_cases h : ∃ i j, i < j ∧ g i = g j
  · obtain ⟨i, j, hij, e⟩ := h
    have := path (j - i - 1) i
    rw [show i + (j - i - 1 + 1) = j from by omega, ← e] at this
    exact ⟨_, this⟩
  · exfalso
    have hn : ((List.range (es.length + 1)).map g).Nodup := by
      unfold List.Nodup
      rw [List.pairwise_map]
      refine List.Pairwise.imp ?_ (List.pairwise_lt_range (n := es.length + 1))
      intro a b hab e
      exact h ⟨a, b, hab, e⟩
    have := nodup_sub_len (ys := es.map Prod.fst) hn (fun k hk => by
      obtain ⟨i, _, rfl⟩ := List.mem_map.1 hk
      exact List.mem_map_of_mem (f := Prod.fst) (hg i))
    simp only [List.length_map, List.length_range] at this
    omega

theorem circ_of_full {es : List (Int × Int)} (hall : ∀ e ∈ es, leads es e = true) (hne : es ≠ []) : Circ es := by
  classical
  obtain ⟨e0, he0⟩ := List.exists_mem_of_ne_nil es hne
  have step : ∀ e : {e // e ∈ es}, ∃ f : {e // e ∈ es}, f.1.1 = e.1.2 := by
    intro ⟨e, he⟩
    obtain ⟨x, hx⟩ := leads_iff.1 (hall e he)
    exact ⟨⟨_, hx⟩, rfl⟩
  let nx : {e // e ∈ es} → {e // e ∈ es} := fun e => Classical.choose (step e)
  have hnx : ∀ e, (nx e).1.1 = e.1.2 := fun e => Classical.choose_spec (step e)
  let sq : Nat → {e // e ∈ es} := fun n => Nat.rec ⟨e0, he0⟩ (fun _ e => nx e) n
  refine walk_circ (fun i => (sq i).1.1) (fun i => ?_)
  have : (sq (i + 1)).1.1 = (sq i).1.2 := hnx (sq i)
  show ((sq i).1.1, (sq (i + 1)).1.1) ∈ es
  rw [this]
  exact (sq i).2

/-- Where nothing is pruned, there is a circle just if there is an edge. -/
theorem circ_of_same {es : List (Int × Int)} (h : (prune es).length = es.length) : circ es = decide (0 < es.length) := by
  have hall : ∀ e ∈ es, leads es e = true := by
    unfold prune at h
    exact List.length_filter_eq_length_iff.1 h
  cases es with
  | nil =>
    rw [circ_false]; simp
    rintro ⟨u, hu⟩
    obtain ⟨x, hx⟩ := hu.first
    simp at hx
  | cons e es => rw [circ_true (circ_of_full hall (by simp))]; simp

/-- The ends of the edges that begin at k. -/
def succs (es : List (Int × Int)) (k : Int) : List Int := (es.filter (fun e => e.1 == k)).map (·.2)
theorem mem_succs {es : List (Int × Int)} {u v : Int} : v ∈ succs es u ↔ (u, v) ∈ es := by
  unfold succs
  rw [List.mem_map]
  constructor
  · rintro ⟨⟨a, b⟩, h, rfl⟩
    obtain ⟨h1, h2⟩ := List.mem_filter.1 h
    have : a = u := by simpa using h2
    rw [← this]; exact h1
  · intro h
    exact ⟨_, List.mem_filter.2 ⟨h, by simp⟩, rfl⟩

/-- What the search from f knows: what is to be looked at ('td'), what has been ('M'). -/
structure Search (es : List (Int × Int)) (f : Int) (td : List Int) (M : List Int) : Prop where
  todo : ∀ v ∈ td, Path es f v
  done : ∀ u ∈ M, Path es f u
  self : f ∉ M
  first : ∀ v, (f, v) ∈ es → v ∈ td ∨ v ∈ M
  next : ∀ u ∈ M, ∀ v, (u, v) ∈ es → v ∈ td ∨ v ∈ M

theorem Search.start (es : List (Int × Int)) (f : Int) : Search es f (succs es f) [] :=
  ⟨fun _ hv => .one (mem_succs.1 hv), by simp, by simp, fun _ hv => .inl (mem_succs.2 hv), by simp⟩

theorem Search.hit {es : List (Int × Int)} {f : Int} {td M : List Int} (h : Search es f td M) (hm : f ∈ td) : Circ es := ⟨f, h.todo f hm⟩

theorem mem_split {td : List Int} {x : Int} {r : List Int} (e : td = r ++ [x]) (v : Int) : v ∈ td ↔ v ∈ r ∨ v = x := by
  rw [e]; simp

/-- The last one has been looked at already. -/
theorem Search.old {es : List (Int × Int)} {f x : Int} {td M r : List Int} (h : Search es f td M) (e : td = r ++ [x]) (hx : x ∈ M) : Search es f r M :=
  ⟨fun v hv => h.todo v ((mem_split e v).2 (.inl hv)), h.done, h.self,
   fun v hv => by
    rcases h.first v hv with h1 | h1
    · rcases (mem_split e v).1 h1 with h2 | rfl
      · exact .inl h2
      · exact .inr hx
    · exact .inr h1,
   fun u hu v hv => by
    rcases h.next u hu v hv with h1 | h1
    · rcases (mem_split e v).1 h1 with h2 | rfl
      · exact .inl h2
      · exact .inr hx
    · exact .inr h1⟩

/-- The last one is new, and not f. -/
theorem Search.new {es : List (Int × Int)} {f x : Int} {td M M' r : List Int} (h : Search es f td M) (e : td = r ++ [x]) (hf : x ≠ f) (hM : ∀ v, v ∈ M' ↔ v = x ∨ v ∈ M) : Search es f (r ++ succs es x) M' := by
  have hp : Path es f x := h.todo x ((mem_split e x).2 (.inr rfl))
  refine ⟨fun v hv => ?_, fun u hu => ?_, fun hu => ?_, fun v hv => ?_, fun u hu v hv => ?_⟩
  · rcases List.mem_append.1 hv with h1 | h1
    · exact h.todo v ((mem_split e v).2 (.inl h1))
    · exact hp.trans (.one (mem_succs.1 h1))
  · rcases (hM u).1 hu with rfl | h1
    · exact hp
    · exact h.done u h1
  · rcases (hM f).1 hu with h1 | h1
    · exact hf h1.symm
    · exact h.self h1
  · rcases h.first v hv with h1 | h1
    · rcases (mem_split e v).1 h1 with h2 | h2
      · exact .inl (List.mem_append.2 (.inl h2))
      · exact .inr ((hM v).2 (.inl h2))
    · exact .inr ((hM v).2 (.inr h1))
  · rcases (hM u).1 hu with rfl | h1
    · exact .inl (List.mem_append.2 (.inr (mem_succs.2 hv)))
    · rcases h.next u h1 v hv with h2 | h2
      · rcases (mem_split e v).1 h2 with h3 | h3
        · exact .inl (List.mem_append.2 (.inl h3))
        · exact .inr ((hM v).2 (.inl h3))
      · exact .inr ((hM v).2 (.inr h2))

/-- Nothing is left to be looked at: f does not lead back to itself. -/
theorem Search.none {es : List (Int × Int)} {f : Int} {M : List Int} (h : Search es f [] M) : ¬ Path es f f := by
  have key : ∀ u v, Path es u v → (u = f ∨ u ∈ M) → v ∈ M := by
    intro u v hp
    induction hp with
    | one he =>
      rintro (rfl | hu)
      · rcases h.first _ he with h1 | h1
        · simp at h1
        · exact h1
      · rcases h.next _ hu _ he with h1 | h1
        · simp at h1
        · exact h1
    | cons he _ ih =>
      intro hu
      refine ih (.inr ?_)
      rcases hu with rfl | hu
      · rcases h.first _ he with h1 | h1
        · simp at h1
        · exact h1
      · rcases h.next _ hu _ he with h1 | h1
        · simp at h1
        · exact h1
  exact fun hp => h.self (key f f hp (.inl rfl))

/-- How many edges begin where nobody has looked. -/
def fresh (es : List (Int × Int)) (M : List Int) : Nat := (es.filter (fun e => !M.contains e.1)).length
theorem fresh_le (es : List (Int × Int)) (M : List Int) : fresh es M ≤ es.length := List.length_filter_le _ _
theorem fresh_new (es : List (Int × Int)) {M M' : List Int} {x : Int} (hx : x ∉ M) (hM : ∀ v, v ∈ M' ↔ v = x ∨ v ∈ M) : fresh es M' + (succs es x).length = fresh es M := by
  unfold fresh succs
  rw [List.length_map]
  induction es with
  | nil => simp
  | cons e es ih =>
    simp only [List.filter_cons]
    by_cases h1 : e.1 = x
    · have a1 : M'.contains e.1 = true := by simp [(hM e.1).2 (.inl h1)]
      have a2 : M.contains e.1 = false := by rw [h1]; simpa using hx
      have a3 : (e.1 == x) = true := by simp [h1]
      simp only [a1, a2, a3, Bool.not_true, Bool.not_false, Bool.false_eq_true, if_false, if_true, List.length_cons]; omega
    · have a3 : (e.1 == x) = false := by simpa using h1
      by_cases h2 : e.1 ∈ M
      · have a1 : M'.contains e.1 = true := by simp [(hM e.1).2 (.inr h2)]
        have a2 : M.contains e.1 = true := by simpa using h2
        simp only [a1, a2, a3, Bool.not_true, Bool.false_eq_true, if_false]; exact ih
      · have a1 : M'.contains e.1 = false := by
          simp only [List.contains_eq_mem, decide_eq_false_iff_not]
          intro h; rcases (hM e.1).1 h with h | h
          · exact h1 h
          · exact h2 h
        have a2 : M.contains e.1 = false := by simpa using h2
        simp only [a1, a2, a3, Bool.not_false, Bool.false_eq_true, if_false, if_true, List.length_cons]; omega

end Go.Proofs.Ytklbjnphfpjgeaa
