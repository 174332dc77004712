/- Part of a proof: MachK2 FitsP Rdy Flt GoAll MachK3 MachK4 Told RunF Count Moves RunLaws RunEnds. -/
import Derived.Test.YtppoohbkkdgljaaVPFr
set_option maxRecDepth 100000
set_option maxHeartbeats 16000000
namespace Go.Proofs.Ytppoohbkkdgljaa
theorem zbd {α : Type} [BEq α] [LawfulBEq α] {E E' A B : List α} (h : ∀ e, E'.count e + A.count e = E.count e + B.count e) : (E' ++ A).Perm (E ++ B) :=
 List.perm_iff_count.2 fun e => by rw [List.count_append, List.count_append, h e]
theorem zfh {α : Type} {E E' R N : List α} (h : (E' ++ (R ++ N)).Perm (E ++ N)) : (E' ++ R).Perm E := by
 rw [← List.append_assoc] at h
 exact (List.perm_append_right_iff N).1 h
theorem zc9 {α : Type} {E E' N : List α} {e : α} (h : (E' ++ N).Perm (E ++ (N ++ [e]))) : E'.Perm (e :: E) := by
 have h2 : (E ++ (N ++ [e])).Perm ((e :: E) ++ N) := by
  rw [← List.append_assoc]
  exact List.perm_append_comm.trans (by simp)
 exact (List.perm_append_right_iff N).1 (h.trans h2)
theorem zcF {α : Type} {E E' N : List α} (h : (E' ++ N).Perm (E ++ N)) : E'.Perm E := (List.perm_append_right_iff N).1 h
theorem zib : ∀ (n : Nat) (l : List Int), l.Nodup → (∀ t ∈ l, 0 ≤ t ∧ t < n) → l.length ≤ n
 | 0, l, _, h => by
  cases l with
  | nil => simp
  | cons a l => have := h a (by simp); omega
 | n + 1, l, hn, h => by
  have ih := zib n (l.erase (n : Int)) (hn.erase _) (fun t ht => by
   have h1 := h t (List.mem_of_mem_erase ht)
   have h2 : t ≠ (n : Int) := fun e => by
    rw [e] at ht
    exact (List.Nodup.mem_erase_iff hn).1 ht |>.1 rfl
   omega)
  have := @List.length_erase Int _ _ (n : Int) l
  split at this <;> omega
section
variable {p : Pg} {s : StD} {t : Int}
theorem Fits.opv (h : Fits p s) (ht : Turn p s t) : zF p (opAt p s t) = true := by
 have := ht.rg; have h1 := ht.lt; have := ht.ge
 unfold opAt zb3
 unfold zb3 at h1
 exact zij h.prog (by omega) (by omega)
theorem zbO {o : OpD} (ho : zF p o = true) : 0 ≤ o.on ∧ o.on < zv p o.kind := (zb1 ho).2.1
theorem zfT {o : OpD} (ho : zF p o = true) : 1 ≤ o.kind ∧ o.kind ≤ 10 := (zb1 ho).1
theorem zfQ {o : OpD} (ho : zF p o = true) (hk : o.kind = 2 ∨ o.kind = 3) : 1 ≤ o.arg ∧ o.arg ≤ p.sems.getD o.on.toNat 0 := by
 have h := (zb1 ho).2.2
 unfold zaS at h
 rw [if_pos hk] at h
 simpa using h
theorem zfK {o : OpD} (ho : zF p o = true) (hk : o.kind = 1 ∨ o.kind = 4 ∨ o.kind = 8) : 0 ≤ o.arg ∧ o.arg ≤ 99 := by
 have h := (zb1 ho).2.2
 unfold zaS at h
 rw [if_neg (by omega), if_neg (by omega), if_pos hk] at h
 unfold zbR at h
 simpa using h
theorem zdM {i : Nat} (hi : i < s.sems.length) {e : Ent} (he : e ∈ zS (s.sems.getD i zE) i) : e ∈ ents s := by
 unfold ents
 exact xQ1 (.inl (zcq.2 ⟨i, hi, he⟩))
theorem zdr {i : Nat} (hi : i < s.onces.length) {e : Ent} (he : e ∈ zN (s.onces.getD i zp) i) : e ∈ ents s := by
 unfold ents
 exact xQ1 (.inr (xQ1 (.inl (zcq.2 ⟨i, hi, he⟩))))
theorem zdI {i : Nat} (hi : i < s.groups.length) {e : Ent} (he : e ∈ zaf (s.groups.getD i zK) i) : e ∈ ents s := by
 unfold ents
 exact xQ1 (.inr (xQ1 (.inr (xQ1 (.inl (zcq.2 ⟨i, hi, he⟩))))))
theorem zdO {i : Nat} (hi : i < s.bars.length) {e : Ent} (he : e ∈ zam (s.bars.getD i zx) i) : e ∈ ents s := by
 unfold ents
 exact xQ1 (.inr (xQ1 (.inr (xQ1 (.inr (xQ1 (.inl (zcq.2 ⟨i, hi, he⟩))))))))
theorem zbA {i : Nat} (hi : i < s.chans.length) {e : Ent} (he : e ∈ zY (s.chans.getD i zy) i) : e ∈ ents s := by
 unfold ents
 exact xQ1 (.inr (xQ1 (.inr (xQ1 (.inr (xQ1 (.inr (zcq.2 ⟨i, hi, he⟩))))))))
theorem ziI {i : Nat} (hi : i < s.onces.length) {e : Int × Int} (he : e ∈ zas (s.onces.getD i zp) i) : e ∈ owns s := zcq.2 ⟨i, hi, he⟩
theorem zde (h : Fits p s) (ht : Turn p s t) {l : List Int} (hl : thr6 l) (hin : ∀ u ∈ l, u ∈ eT s) : thr6 (l ++ [t]) ∧ t ∉ l := by
 have hnt : t ∉ l := fun hm => ht.ne (hin t hm)
 have hnd : (l ++ [t]).Nodup := List.nodup_append.2 ⟨hl.2.2, by simp, fun a ha b hb e => hnt (by rw [xS1 hb] at e; exact e ▸ ha)⟩
 have hp := (zc5 h.prog).2
 have hr : ∀ u ∈ l ++ [t], 0 ≤ u ∧ u < (4 : Nat) := fun u hu => by
  have : 0 ≤ u ∧ u < p.threads.length := by
   rcases xP1 hu with hu | hu
   ·exact (h.waits (hin u hu)).1
   ·rw [xS1 hu]; exact ht.rg
  omega
 refine ⟨⟨?_, fun u hu => by have := hr u hu; omega, hnd⟩, hnt⟩
 have := zib 4 _ hnd hr
 omega
theorem zfG {l k : List Int} (h : thr6 (l ++ k)) : thr6 k := ⟨by have := h.1; rw [List.length_append] at this; omega, fun t ht => h.2.1 t (xQ1 (.inr ht)), (List.nodup_append.1 h.2.2).2.1⟩
theorem zcf : thr6 [] := ⟨by simp, by simp, by simp⟩
theorem zeK : ∀ (q : List (Int × Int)) (f : Int), 0 ≤ f → (∀ w ∈ q, 1 ≤ w.2) → ∃ P N, q = P ++ N ∧ (zag f q).2.1 = P.map (·.1) ∧ (zag f q).2.2 = N ∧ 0 ≤ (zag f q).1 ∧ (zag f q).1 ≤ f ∧ (∀ w N', N = w :: N' → (zag f q).1 < w.2)
 | [], f, hf, _ => ⟨[], [], rfl, rfl, rfl, hf, Int.le_refl _, by simp⟩
 | w :: q, f, hf, hq => by
  by_cases hw : w.2 ≤ f
  ·obtain ⟨P, N, h1, h2, h3, h4, h5, h6⟩ := zeK q (f - w.2) (by omega) (fun x hx => hq x (List.mem_cons_of_mem _ hx))
   have e : zag f (w :: q) = ((zag (f - w.2) q).1, w.1 :: (zag (f - w.2) q).2.1, (zag (f - w.2) q).2.2) := by rw [zag, if_pos hw]
   rw [e]
   refine ⟨w :: P, N, by rw [h1]; rfl, by simp [h2], h3, h4, ?_, h6⟩
   have := hq w (by simp)
   show (zag (f - w.2) q).1 ≤ f
   omega
  ·have e : zag f (w :: q) = (f, [], w :: q) := by rw [zag, if_neg hw]
   rw [e]
   exact ⟨[], w :: q, rfl, rfl, rfl, hf, Int.le_refl _, fun w' N' h => by rw [← (List.cons.inj h).1]; show f < w.2; omega⟩
theorem Fits.doSem (h : Fits p s) (ht : Turn p s t) (ho : t ∉ oT s) (hk : (opAt p s t).kind = 2) : Fits p (doSem p s t (opAt p s t)) := by
 have hv := h.opv ht
 obtain ⟨o, eo⟩ : ∃ o, o = opAt p s t := ⟨_, rfl⟩
 rw [← eo] at hv hk ⊢
 obtain ⟨h0, h1⟩ := zbO hv
 rw [show zv p o.kind = p.sems.length by unfold zv; rw [if_neg (by omega), if_pos (.inl hk)]] at h1
 have hi : o.on.toNat < s.sems.length := by rw [h.nse]; omega
 obtain ⟨x, ex⟩ : ∃ x, x = s.sems.getD o.on.toNat zE := ⟨_, rfl⟩
 obtain ⟨ok, hlim⟩ := h.se _ hi
 have hc := zfQ hv (.inl hk)
 rw [← ex] at ok hlim
 rw [← hlim] at hc
 have hcount := zf2 s o.on (zbr x t o.arg).1 hi
 rw [← ex] at hcount
 have hP := zbd hcount
 unfold Go.Proofs.Ytppoohbkkdgljaa.doSem
 rw [← ex]
 by_cases hq : x.queue = [] ∧ o.arg ≤ x.free
 ·have e : zbr x t o.arg = (⟨x.free - o.arg, x.limit, x.queue⟩, true) := by unfold zbr; rw [if_pos hq]
  rw [e] at hP ⊢
  have hT : zU p (setSem s o.on ⟨x.free - o.arg, x.limit, x.queue⟩) := h.things.setSem ⟨⟨ok.1, ⟨by show 0 ≤ x.free - o.arg; omega, by show x.free - o.arg ≤ x.limit; have := ok.2.1; omega⟩, ok.2.2.1, ok.2.2.2.1, fun w q hw => by
   dsimp only at hw; rw [hq.1] at hw; cases hw⟩, hlim⟩
  have := h.tell (R := []) ht ho hT rfl rfl (by rw [List.append_nil]; exact zcF hP) rfl
  exact this
 ·have e : zbr x t o.arg = (⟨x.free, x.limit, x.queue ++ [(t, o.arg)]⟩, false) := by unfold zbr; rw [if_neg hq]
  rw [e] at hP ⊢
  have hin : ∀ u ∈ x.queue.map (·.1), u ∈ eT s := fun u hu => by
   obtain ⟨w, hw, rfl⟩ := List.mem_map.1 hu
   refine List.mem_map.2 ⟨(w.1, 2, ((o.on.toNat : Nat) : Int), w.2), zdM hi ?_, rfl⟩
   rw [← ex]; exact List.mem_map.2 ⟨w, hw, rfl⟩
  have hth := zde h ht ok.2.2.2.1 hin
  have hT : zU p (setSem s o.on ⟨x.free, x.limit, x.queue ++ [(t, o.arg)]⟩) := h.things.setSem ⟨⟨ok.1, ok.2.1, fun w hw => by
    rcases xP1 hw with hw | hw
    ·exact ok.2.2.1 w hw
    ·rw [xS1 hw]; exact hc, by show thr6 (List.map _ (x.queue ++ [(t, o.arg)])); rw [List.map_append]; exact hth.1, fun w q hw => by
    dsimp only at hw ⊢
    cases hxq : x.queue with
    | nil =>
     rw [hxq] at hw
     simp only [List.nil_append, List.cons.injEq] at hw
     rw [← hw.1]
     have : ¬ o.arg ≤ x.free := fun hh => hq ⟨hxq, hh⟩
     show x.free < o.arg
     omega
    | cons a l =>
     rw [hxq] at hw
     simp only [List.cons_append, List.cons.injEq] at hw
     exact ok.2.2.2.2 w l (by rw [hxq, hw.1])⟩, hlim⟩
  refine h.wait ht ho hT rfl rfl (zc9 (N := zS x o.on.toNat) ?_) rfl
  rw [← eo]
  have e2 : zS (⟨x.free, x.limit, x.queue ++ [(t, o.arg)]⟩ : SemD) o.on.toNat = zS x o.on.toNat ++ [want o t] := by
   unfold zS want
   rw [if_pos (.inl hk), hk, List.map_append]
   simp only [List.map_cons, List.map_nil]
   rw [show ((o.on.toNat : Nat) : Int) = o.on by omega]
  rw [e2] at hP
  exact hP
theorem Fits.doRel (h : Fits p s) (ht : Turn p s t) (ho : t ∉ oT s) (hk : (opAt p s t).kind = 3) : Fits p (doRel p s t (opAt p s t)) := by
 have hv := h.opv ht
 obtain ⟨o, eo⟩ : ∃ o, o = opAt p s t := ⟨_, rfl⟩
 rw [← eo] at hv hk ⊢
 obtain ⟨h0, h1⟩ := zbO hv
 rw [show zv p o.kind = p.sems.length by unfold zv; rw [if_neg (by omega), if_pos (.inr hk)]] at h1
 have hi : o.on.toNat < s.sems.length := by rw [h.nse]; omega
 obtain ⟨x, ex⟩ : ∃ x, x = s.sems.getD o.on.toNat zE := ⟨_, rfl⟩
 obtain ⟨ok, hlim⟩ := h.se _ hi
 have hc := zfQ hv (.inr hk)
 rw [← ex] at ok hlim
 unfold Go.Proofs.Ytppoohbkkdgljaa.doRel
 rw [← ex]
 unfold zbX
 by_cases hf : o.arg ≤ x.limit - x.free
 ·rw [if_pos hf]
  have hcount := zf2 s o.on ⟨(zag (x.free + o.arg) x.queue).1, x.limit, (zag (x.free + o.arg) x.queue).2.2⟩ hi
  rw [← ex] at hcount
  have hP := zbd hcount
  obtain ⟨P, N, e1, e2, e3, e4, e5, e6⟩ := zeK x.queue (x.free + o.arg) (by have := ok.2.1; omega) (fun w hw => (ok.2.2.1 w hw).1)
  rw [e3] at hP ⊢
  rw [e2]
  have hsp : zS x o.on.toNat = (P.map fun w => ((w.1, 2, ((o.on.toNat : Nat) : Int), w.2) : Ent)) ++ zS (⟨(zag (x.free + o.arg) x.queue).1, x.limit, N⟩ : SemD) o.on.toNat := by
   unfold zS
   rw [e1, List.map_append]
  rw [hsp] at hP
  have hT : zU p (setSem s o.on ⟨(zag (x.free + o.arg) x.queue).1, x.limit, N⟩) := h.things.setSem ⟨⟨ok.1, ⟨e4, by show (zag (x.free + o.arg) x.queue).1 ≤ x.limit; omega⟩, fun w hw => ok.2.2.1 w (by rw [e1]; exact xQ1 (.inr hw)), zfG (l := P.map (·.1)) (by rw [← List.map_append, ← e1]; exact ok.2.2.2.1), e6⟩, hlim⟩
  have := h.tell (R := P.map fun w => ((w.1, 2, ((o.on.toNat : Nat) : Int), w.2) : Ent)) ht ho hT rfl rfl (zfh hP) rfl
  rw [List.map_map] at this
  exact this
 ·rw [if_neg hf]
  exact h.fail (by omega)
theorem Fits.doOnce (h : Fits p s) (ht : Turn p s t) (hk : (opAt p s t).kind = 4) : Fits p (doOnce p s t (opAt p s t)) := by
 have hv := h.opv ht
 have hst := ht.st
 obtain ⟨o, eo⟩ : ∃ o, o = opAt p s t := ⟨_, rfl⟩
 rw [← eo] at hv hk hst ⊢
 obtain ⟨h0, h1⟩ := zbO hv
 rw [show zv p o.kind = 3 by unfold zv; rw [if_neg (by omega), if_neg (by omega), if_pos hk]] at h1
 have hi : o.on.toNat < s.onces.length := by rw [h.non]; omega
 obtain ⟨x, ex⟩ : ∃ x, x = s.onces.getD o.on.toNat zp := ⟨_, rfl⟩
 have ok := h.on _ hi
 have hva := zfK hv (.inr (.inl hk))
 rw [← ex] at ok
 have hin : ∀ u ∈ x.waits, u ∈ eT s := fun u hu => by
  refine List.mem_map.2 ⟨(u, 4, ((o.on.toNat : Nat) : Int), 0), zdr hi ?_, rfl⟩
  rw [← ex]; exact List.mem_map.2 ⟨u, hu, rfl⟩
 have hoi : ((o.on.toNat : Nat) : Int) = o.on := by omega
 have hr4 : 0 ≤ t ∧ t < 6 := by have := ht.rg; have := (zc5 h.prog).2; omega
 unfold Go.Proofs.Ytppoohbkkdgljaa.doOnce
 rw [← ex]
 rcases hst with ⟨s0, hno⟩ | ⟨s2, -, hown⟩
 ·rw [if_neg (by omega)]
  have hcE := zfI s o.on (za4 x t) hi
  have hcO := zfE s o.on (za4 x t) hi
  rw [← ex] at hcE hcO
  have hE := zbd hcE
  have hO := zbd hcO
  rcases ok with ⟨k1, k2, k3, k4⟩ | ⟨k1, k2, k3, k4, k5⟩ | ⟨k1, k2, k3, k4⟩
  ·rw [if_pos k1]
   have e : za4 x t = ⟨1, t, 0, []⟩ := by unfold za4; rw [if_pos k1]
   rw [e] at hE hO ⊢
   have hT : zU p (setOnce s o.on ⟨1, t, 0, []⟩) := h.things.setOnce (.inr (.inl ⟨rfl, hr4, rfl, zcf, by simp⟩))
   refine h.own ht hno (by rw [← eo]; exact hk) hT rfl rfl ?_ ?_
   ·have e2 : zN (⟨1, t, 0, []⟩ : zaE) o.on.toNat = zN x o.on.toNat := by unfold zN; rw [k4]
    rw [e2] at hE
    exact zcF hE
   ·have e2 : zas (⟨1, t, 0, []⟩ : zaE) o.on.toNat = zas x o.on.toNat ++ [(t, o.on)] := by
     unfold zas
     rw [if_pos rfl, if_neg (by omega), hoi]
     rfl
    rw [e2] at hO
    rw [← eo]
    exact zc9 hO
  ·rw [if_neg (by omega), if_pos k1]
   have e : za4 x t = ⟨1, x.owner, 0, x.waits ++ [t]⟩ := by unfold za4; rw [if_neg (by omega), if_pos k1]
   rw [e] at hE hO ⊢
   have hth := zde h ht k4 hin
   have howner : x.owner ∈ oT s := by
    refine List.mem_map.2 ⟨(x.owner, ((o.on.toNat : Nat) : Int)), ziI hi ?_, rfl⟩
    rw [← ex]; unfold zas; rw [if_pos k1]; simp
   have hne : x.owner ≠ t := fun e => hno (e ▸ howner)
   have hT : zU p (setOnce s o.on ⟨1, x.owner, 0, x.waits ++ [t]⟩) := h.things.setOnce (.inr (.inl ⟨rfl, k2, rfl, hth.1, fun hm => by
    rcases xP1 hm with hm | hm
    ·exact k5 hm
    ·exact hne (xS1 hm)⟩))
   have hOo : owns (setOnce s o.on ⟨1, x.owner, 0, x.waits ++ [t]⟩) = owns s := by
    unfold owns setOnce
    simp only [List.length_set]
    refine zfb fun i hi' => ?_
    rw [zax]
    by_cases hii : i = o.on.toNat ∧ o.on.toNat < s.onces.length
    ·rw [if_pos hii, hii.1, ← ex]
     unfold zas
     rw [if_pos rfl, if_pos k1]
    ·rw [if_neg hii]
   refine h.wait ht hno hT rfl rfl (zc9 (N := zN x o.on.toNat) ?_) hOo
   have e2 : zN (⟨1, x.owner, 0, x.waits ++ [t]⟩ : zaE) o.on.toNat = zN x o.on.toNat ++ [want o t] := by
    unfold zN want
    rw [if_neg (by omega), hk, List.map_append, hoi]
    rfl
   rw [e2] at hE
   rw [← eo]
   exact hE
  ·rw [if_neg (by omega), if_neg (by omega)]
   exact h.tell (R := []) ht hno h.things rfl rfl (by rw [List.append_nil]) rfl
 ·rw [if_pos s2]
  have hcE := zfI s o.on (zcT t o.arg) hi
  have hcO := zfE s o.on (zcT t o.arg) hi
  rw [← ex] at hcE hcO
  have hE := zbd hcE
  have hO := zbd hcO
  obtain ⟨i, hi', hmem⟩ := zcq.1 hown
  have hx1 : (s.onces.getD i zp).state = 1 ∧ t = (s.onces.getD i zp).owner ∧ o.on = i := by
   unfold zas at hmem
   by_cases hs1 : (s.onces.getD i zp).state = 1
   ·rw [if_pos hs1] at hmem
    have := xS1 hmem
    simp only [Prod.mk.injEq] at this
    exact ⟨hs1, this.1, this.2⟩
   ·rw [if_neg hs1] at hmem; cases hmem
  have hii : o.on.toNat = i := by omega
  rw [← hii, ← ex] at hx1
  obtain ⟨x1, x2, -⟩ := hx1
  have hth : thr6 x.waits := by
   rcases ok with ⟨k1, k2, k3, k4⟩ | ⟨k1, k2, k3, k4, k5⟩ | ⟨k1, k2, k3, k4⟩
   ·rw [k4]; exact zcf
   ·exact k4
   ·rw [k4]; exact zcf
  have hT : zU p (setOnce s o.on (zcT t o.arg)) := h.things.setOnce (.inr (.inr ⟨rfl, hr4, hva, rfl⟩))
  have eN : zN (zcT t o.arg) o.on.toNat = [] := rfl
  have eM : zas (zcT t o.arg) o.on.toNat = [] := by unfold zas zcT; rw [if_neg (by show ¬ (2 : Int) = 1; decide)]
  have eQ : zas x o.on.toNat = [(t, o.on)] := by unfold zas; rw [if_pos x1, hoi, ← x2]
  rw [eN, List.append_nil] at hE
  rw [eM, eQ, List.append_nil] at hO
  have pE := hE.map (·.1)
  have pO := hO.map (·.1)
  rw [List.map_append] at pE pO
  have nE := List.nodup_append.1 (pE.nodup_iff.2 h.ne)
  have nO := List.nodup_append.1 (pO.nodup_iff.2 h.no)
  have mR : (zN x o.on.toNat).map (fun e : Ent => e.1) = x.waits := by
   unfold zN
   rw [List.map_map]
   exact List.map_id' _
  have tO : t ∈ oT s := List.mem_map.2 ⟨_, hown, rfl⟩
  refine h.go hT rfl rfl hE hO ?_ ?_ ?_ ?_ ?_
  ·exact List.nodup_append.2 ⟨hth.2.2, by simp, fun a ha b hb e => ht.ne (by rw [xS1 hb] at e; exact e ▸ hin a ha)⟩
  ·intro u hu
   rcases xP1 hu with hu | hu
   ·exact ⟨(h.waits (hin u hu)).1, (h.waits (hin u hu)).2.1⟩
   ·rw [xS1 hu]; exact ⟨ht.rg, ht.lt⟩
  ·intro u hu
   rcases xP1 hu with hu | hu
   ·refine ⟨fun hx => nE.2.2 u hx u (by rw [mR]; exact hu) rfl, fun hx => ?_⟩
    exact (h.waits (hin u hu)).2.2 (pO.mem_iff.1 (xQ1 (.inl hx)))
   ·rw [xS1 hu]
    exact ⟨fun hx => ht.ne (pE.mem_iff.1 (xQ1 (.inl hx))), fun hx => nO.2.2 t hx t (by simp) rfl⟩
  ·intro e he
   refine xQ1 (.inl ?_)
   rw [← mR]
   exact List.mem_map_of_mem he
  ·intro e he
   rw [xS1 he]
   exact xQ1 (.inr (by simp))
end
end Go.Proofs.Ytppoohbkkdgljaa
namespace Go.Proofs.Ytppoohbkkdgljaa
open Go.RowKit Go.Sort
theorem zaB {p : Pg} (h : zq p = true) : p.sems.length ≤ 3 ∧ p.groups.length ≤ 3 ∧ p.barriers.length ≤ 3 ∧ p.rooms.length ≤ 3 ∧ (1 ≤ p.threads.length ∧ p.threads.length ≤ 4) ∧ ∀ i, (p.threads.getD i []).length ≤ 8 := by
 unfold zq zae at h
 simp only [Bool.and_eq_true, decide_eq_true_eq, List.all_eq_true] at h
 obtain ⟨⟨⟨⟨⟨⟨⟨h1, -⟩, ⟨h2, -⟩⟩, ⟨h3, -⟩⟩, ⟨h4, -⟩⟩, h5⟩, h6⟩, h7⟩ := h
 refine ⟨h1, h2, h3, h4, ⟨h5, h6⟩, fun i => ?_⟩
 by_cases hi : i < p.threads.length
 ·rw [List.getD_eq_getElem?_getD, List.getElem?_eq_getElem hi]
  exact (h7 _ (List.getElem_mem hi)).1
 ·rw [List.getD_eq_getElem?_getD, List.getElem?_eq_none (by omega)]
  simp
theorem zdK {p : Pg} {v : PV} {w : World} (h : zq p = true) (hr : RdP w v p) : zbb v p := by
 obtain ⟨h1, h2, h3, h4, ⟨h5, h6⟩, h7⟩ := zaB h
 exact ⟨by rw [← hr.ls]; omega, by rw [← hr.lg]; omega, by rw [← hr.lb]; omega, by rw [← hr.lr]; omega, by rw [← hr.lt]; omega, fun i => Nat.le_trans (h7 i) (by omega)⟩
theorem zdC {α : Type} {l : List α} {i : Nat} {d : α} (h : ¬ i < l.length) : l.getD i d = d := by
 rw [List.getD_eq_getElem?_getD, List.getElem?_eq_none (by omega)]; rfl
theorem zgE {o : zaE} (h : zdt o) : o.waits.length ≤ 6 := by
 rcases h with ⟨-, -, -, h⟩ | ⟨-, -, -, h, -⟩ | ⟨-, -, -, h⟩
 ·rw [h]; simp
 ·exact h.1
 ·rw [h]; simp
theorem Fits.sm {p : Pg} {s : StD} (h : Fits p s) : SmS s := by
 obtain ⟨h1, h2, h3, h4, ⟨h5, h6⟩, h7⟩ := zaB h.prog
 have np := h.np
 have nst := h.nst
 have nse := h.nse
 have non := h.non
 have ngr := h.ngr
 have nba := h.nba
 have nch := h.nch
 have nsa := h.nsa
 refine ⟨⟨by omega, by omega⟩, ⟨by omega, by omega⟩, by omega, by omega, by omega, by omega, by omega, by omega, fun i => ?_, fun i => ?_, fun i => ?_, fun i => ?_, fun i => ?_⟩
 ·by_cases hi : i < s.sems.length
  ·have := (h.se i hi).1.2.2.2.1.1
   rw [List.length_map] at this; omega
  ·rw [zdC hi]; simp [zE]
 ·by_cases hi : i < s.onces.length
  ·have := zgE (h.on i hi); omega
  ·rw [zdC hi]; simp [zp]
 ·by_cases hi : i < s.groups.length
  ·have := (h.gr i hi).2.1.1; omega
  ·rw [zdC hi]; simp [zK]
 ·by_cases hi : i < s.bars.length
  ·have := (h.ba i hi).1.2.2.1.1; omega
  ·rw [zdC hi]; simp [zx]
 ·by_cases hi : i < s.chans.length
  ·have h9 := (h.ch i hi).1
   have := h9.2.2.2.2.1.1
   rw [List.length_append, List.length_map] at this
   have h10 := h9.2.1
   have h11 := h9.1.2
   exact ⟨by omega, by omega, by omega⟩
  ·rw [zdC hi]; simp [zy]
end Go.Proofs.Ytppoohbkkdgljaa
namespace Go.Proofs.Ytppoohbkkdgljaa
def zci (s : StD) (k : Nat) : List Int := ((List.range k).filter fun i => decide (s.status.getD i 0 = 0 ∨ s.status.getD i 0 = 2)).map (fun i : Nat => (i : Int))
theorem zfn (s : StD) (k : Nat) : zci s (k + 1) = if s.status.getD k 0 = 0 ∨ s.status.getD k 0 = 2 then zci s k ++ [(k : Int)] else zci s k := by
 unfold zci
 rw [List.range_succ, List.filter_append, List.map_append]
 by_cases h : s.status.getD k 0 = 0 ∨ s.status.getD k 0 = 2
 ·rw [if_pos h]
  simp only [List.filter_cons, List.filter_nil]
  rw [if_pos (by simpa using h)]
  rfl
 ·rw [if_neg h]
  simp only [List.filter_cons, List.filter_nil]
  rw [if_neg (by simpa using h)]
  simp
theorem zez (s : StD) (k : Nat) : (zci s k).length ≤ k := by
 unfold zci
 rw [List.length_map]
 exact Nat.le_trans (List.length_filter_le _ _) (by simp)
theorem zes (s : StD) : zT s = if s.fault = 0 then zci s s.status.length else [] := rfl
end Go.Proofs.Ytppoohbkkdgljaa
namespace Go.Proofs.Ytppoohbkkdgljaa
open Go.RowKit
theorem StO.fault {X : List Nat} {B : Nat} {w : World} {v : StV} {L : StL} {s : StD} (h : StO X B w v L s) (f : Int) : StO X B w { v with fl := f } L (zbl s f) :=
 ⟨h.pl, h.npl, h.st, h.nst, h.se, h.nse, h.on, h.non, h.gr, h.ngr, h.ba, h.nba, h.ch, h.nch, h.sa, h.nsa, rfl, h.dps, h.dpa, h.dsa, h.xs, h.inn.to ⟨rfl, rfl, rfl, rfl, rfl⟩⟩
theorem NewB.lower {B B' : Nat} {L : StL} (h : NewB B L) (hb : B' ≤ B) : NewB B' L :=
 ⟨fun z hz => (h.se z hz).lower hb, fun z hz => (h.on z hz).lower hb, fun z hz => (h.gr z hz).lower hb, fun z hz => (h.ba z hz).lower hb, fun z hz => ⟨(h.ch z hz).1.lower hb, (h.ch z hz).2.1.lower hb, (h.ch z hz).2.2.lower hb⟩⟩
theorem Fits.place_le {p : Pg} {s : StD} (h : Fits p s) (i : Nat) : 0 ≤ s.places.getD i 0 ∧ s.places.getD i 0 ≤ 8 := by
 by_cases hi : i < p.threads.length
 ·have h1 := h.th i hi
  unfold thOk at h1
  rw [show ((i : Nat) : Int).toNat = i by simp, zd3] at h1
  have := (zaB h.prog).2.2.2.2.2 i
  omega
 ·rw [List.getD_eq_getElem?_getD, List.getElem?_eq_none (by rw [h.np]; omega)]
  simp
theorem Sf.put {w W W' : World} {l : List It} {v : StV} {L L' : StL} {s s' : StD} (h : Sf w W l v L s) {g : Nat} (hg : g ∈ v.blks) (hP : StO (zZ l) w.heap.size W' v L' s' ∧ zm [g] W W') : Sf w W' l v L' s' :=
 h.upd (hP.2.mono fun k hk => by obtain rfl := xS1 hk; exact hg) hP.1
theorem zQ {w : World} {base size n c g : Nat} {e : TypeId} {xs : List Value} (h : w.ownsRow base e size (.slice (some ⟨g, 0, none⟩) n c) n xs) (j : Nat) (hj : j < n * size) : ∃ y, w.cell? ⟨g, j, none⟩ = some y :=
 ⟨_, (h.cellAt j hj).trans (List.getElem?_eq_getElem (by have := h.1; omega))⟩
end Go.Proofs.Ytppoohbkkdgljaa
namespace Go.Proofs.Ytppoohbkkdgljaa
theorem zaD {p : Pg} : ∀ (l : List Int) (s : StD) (i : Nat), s.places.getD i 0 ≤ (goAll p s l).places.getD i 0 ∧ (goAll p s l).places.getD i 0 ≤ s.places.getD i 0 + l.length
 | [], s, i => by simp [goAll]
 | t :: l, s, i => by
  have ih := zaD (p := p) l (goOn p s t) i
  have h1 : s.places.getD i 0 ≤ (goOn p s t).places.getD i 0 ∧ (goOn p s t).places.getD i 0 ≤ s.places.getD i 0 + 1 := by
   show s.places.getD i 0 ≤ (s.places.set t.toNat _).getD i 0 ∧ (s.places.set t.toNat _).getD i 0 ≤ s.places.getD i 0 + 1
   rw [zax]
   by_cases h : i = t.toNat ∧ t.toNat < s.places.length
   ·rw [if_pos h, h.1]; omega
   ·rw [if_neg h]; omega
  rw [show goAll p s (t :: l) = goAll p (goOn p s t) l from rfl, List.length_cons]
  omega
theorem zdn (p : Pg) (s : StD) (l m : List Int) : goAll p s (l ++ m) = goAll p (goAll p s l) m := by unfold goAll; rw [List.foldl_append]
section
variable {p : Pg} {s : StD} {t : Int}
theorem zbj (l : List Int) (k : Int) (i : Int) : (l.map fun u => ((u, k, i, 0) : Ent)).map (fun e : Ent => e.1) = l := by
 rw [List.map_map]; exact List.map_id' _
theorem zkt {o : OpD} (ho : zF p o = true) (hk : o.kind = 5) : -9 ≤ o.arg ∧ o.arg ≤ 9 := by
 have h := (zb1 ho).2.2
 unfold zaS at h
 rw [if_neg (by omega), if_pos hk] at h
 simpa using h
theorem Fits.doAdd (h : Fits p s) (ht : Turn p s t) (ho : t ∉ oT s) (hk : (opAt p s t).kind = 5) : Fits p (doAdd p s t (opAt p s t)) := by
 have hv := h.opv ht
 obtain ⟨o, eo⟩ : ∃ o, o = opAt p s t := ⟨_, rfl⟩
 rw [← eo] at hv hk ⊢
 obtain ⟨h0, h1⟩ := zbO hv
 rw [show zv p o.kind = p.groups.length by unfold zv; rw [if_neg (by omega), if_neg (by omega), if_neg (by omega), if_pos (.inl hk)]] at h1
 have hi : o.on.toNat < s.groups.length := by rw [h.ngr]; omega
 obtain ⟨x, ex⟩ : ∃ x, x = s.groups.getD o.on.toNat zK := ⟨_, rfl⟩
 have ok := h.gr _ hi
 rw [← ex] at ok
 unfold Go.Proofs.Ytppoohbkkdgljaa.doAdd
 rw [← ex]
 unfold zbE
 by_cases hr : 0 ≤ x.count + o.arg ∧ x.count + o.arg ≤ 99
 ·rw [if_pos hr]
  by_cases hz : x.count + o.arg = 0
  ·rw [if_pos hz]
   have hcount := zeQ s o.on ⟨0, []⟩ hi
   rw [← ex] at hcount
   have hP := zbd hcount
   rw [show zaf (⟨0, []⟩ : GrpD) o.on.toNat = [] from rfl, List.append_nil] at hP
   have hT : zU p (setGrp s o.on ⟨0, []⟩) := h.things.setGrp ⟨by simp, zcf, fun _ => rfl⟩
   have := h.tell (R := zaf x o.on.toNat) ht ho hT rfl rfl hP rfl
   unfold zaf at this
   rw [zbj] at this
   exact this
  ·rw [if_neg hz]
   have hcount := zeQ s o.on ⟨x.count + o.arg, x.waits⟩ hi
   rw [← ex] at hcount
   have hP := zbd hcount
   have hT : zU p (setGrp s o.on ⟨x.count + o.arg, x.waits⟩) := h.things.setGrp ⟨hr, ok.2.1, fun e => absurd e hz⟩
   exact h.tell (R := []) ht ho hT rfl rfl (by rw [List.append_nil]; exact zcF hP) rfl
 ·rw [if_neg hr]
  exact h.fail (by omega)
theorem Fits.doWait (h : Fits p s) (ht : Turn p s t) (ho : t ∉ oT s) (hk : (opAt p s t).kind = 6) : Fits p (doWait p s t (opAt p s t)) := by
 have hv := h.opv ht
 obtain ⟨o, eo⟩ : ∃ o, o = opAt p s t := ⟨_, rfl⟩
 rw [← eo] at hv hk ⊢
 obtain ⟨h0, h1⟩ := zbO hv
 rw [show zv p o.kind = p.groups.length by unfold zv; rw [if_neg (by omega), if_neg (by omega), if_neg (by omega), if_pos (.inr hk)]] at h1
 have hi : o.on.toNat < s.groups.length := by rw [h.ngr]; omega
 obtain ⟨x, ex⟩ : ∃ x, x = s.groups.getD o.on.toNat zK := ⟨_, rfl⟩
 have ok := h.gr _ hi
 rw [← ex] at ok
 have hcount := zeQ s o.on (zbf x t).1 hi
 rw [← ex] at hcount
 have hP := zbd hcount
 unfold Go.Proofs.Ytppoohbkkdgljaa.doWait
 rw [← ex]
 by_cases hz : x.count = 0
 ·have e : zbf x t = (x, true) := by unfold zbf; rw [if_pos hz]
  rw [e] at hP ⊢
  have hT : zU p (setGrp s o.on x) := h.things.setGrp ok
  exact h.tell (R := []) ht ho hT rfl rfl (by rw [List.append_nil]; exact zcF hP) rfl
 ·have e : zbf x t = (⟨x.count, x.waits ++ [t]⟩, false) := by unfold zbf; rw [if_neg hz]
  rw [e] at hP ⊢
  have hin : ∀ u ∈ x.waits, u ∈ eT s := fun u hu => by
   refine List.mem_map.2 ⟨(u, 6, ((o.on.toNat : Nat) : Int), 0), zdI hi ?_, rfl⟩
   rw [← ex]; exact List.mem_map.2 ⟨u, hu, rfl⟩
  have hth := zde h ht ok.2.1 hin
  have hT : zU p (setGrp s o.on ⟨x.count, x.waits ++ [t]⟩) := h.things.setGrp ⟨ok.1, hth.1, fun e => absurd e hz⟩
  refine h.wait ht ho hT rfl rfl (zc9 (N := zaf x o.on.toNat) ?_) rfl
  rw [← eo]
  have e2 : zaf (⟨x.count, x.waits ++ [t]⟩ : GrpD) o.on.toNat = zaf x o.on.toNat ++ [want o t] := by
   unfold zaf want
   rw [if_neg (by omega), hk, List.map_append, show ((o.on.toNat : Nat) : Int) = o.on by omega]
   rfl
  rw [e2] at hP
  exact hP
theorem Fits.doCome (h : Fits p s) (ht : Turn p s t) (ho : t ∉ oT s) (hk : (opAt p s t).kind = 7) (hrd : ∀ i, (s.bars.getD i zx).round < 9999) : Fits p (doCome p s t (opAt p s t)) := by
 have hv := h.opv ht
 obtain ⟨o, eo⟩ : ∃ o, o = opAt p s t := ⟨_, rfl⟩
 rw [← eo] at hv hk ⊢
 obtain ⟨h0, h1⟩ := zbO hv
 rw [show zv p o.kind = p.barriers.length by unfold zv; rw [if_neg (by omega), if_neg (by omega), if_neg (by omega), if_neg (by omega), if_pos hk]] at h1
 have hi : o.on.toNat < s.bars.length := by rw [h.nba]; omega
 obtain ⟨x, ex⟩ : ∃ x, x = s.bars.getD o.on.toNat zx := ⟨_, rfl⟩
 obtain ⟨ok, hpar⟩ := h.ba _ hi
 have hr := hrd o.on.toNat
 rw [← ex] at ok hpar hr
 have hcount := ziB s o.on (zaN x t).1 hi
 rw [← ex] at hcount
 have hP := zbd hcount
 unfold Go.Proofs.Ytppoohbkkdgljaa.doCome
 rw [← ex]
 have hoi : ((o.on.toNat : Nat) : Int) = o.on := by omega
 have hin : ∀ u ∈ x.waits, u ∈ eT s := fun u hu => by
  refine List.mem_map.2 ⟨(u, 7, ((o.on.toNat : Nat) : Int), 0), zdO hi ?_, rfl⟩
  rw [← ex]; exact List.mem_map.2 ⟨u, hu, rfl⟩
 have hth := zde h ht ok.2.2.1 hin
 by_cases hlt : (x.waits.length : Int) + 1 < x.parties
 ·have e : zaN x t = (⟨x.parties, x.round, x.waits ++ [t]⟩, []) := by unfold zaN; rw [if_pos hlt]
  rw [e] at hP ⊢
  rw [if_pos rfl]
  have hT : zU p (setBar s o.on ⟨x.parties, x.round, x.waits ++ [t]⟩) := h.things.setBar ⟨⟨ok.1, ok.2.1, hth.1, by
   show (((x.waits ++ [t]).length : Nat) : Int) < x.parties
   rw [List.length_append]; simpa using hlt⟩, hpar⟩
  refine h.wait ht ho hT rfl rfl (zc9 (N := zam x o.on.toNat) ?_) rfl
  rw [← eo]
  have e2 : zam (⟨x.parties, x.round, x.waits ++ [t]⟩ : BarD) o.on.toNat = zam x o.on.toNat ++ [want o t] := by
   unfold zam want
   rw [if_neg (by omega), hk, List.map_append, hoi]
   rfl
  rw [e2] at hP
  exact hP
 ·have e : zaN x t = (⟨x.parties, x.round + 1, []⟩, x.waits ++ [t]) := by unfold zaN; rw [if_neg hlt]
  rw [e] at hP ⊢
  rw [if_neg (by simp)]
  rw [show zam (⟨x.parties, x.round + 1, []⟩ : BarD) o.on.toNat = [] from rfl, List.append_nil] at hP
  have hT : zU p (setBar s o.on ⟨x.parties, x.round + 1, []⟩) := h.things.setBar ⟨⟨ok.1, ⟨by show 0 ≤ x.round + 1; have := ok.2.1.1; omega, by show x.round + 1 ≤ 9999; omega⟩, zcf, by show ((0 : Nat) : Int) < x.parties; have := ok.1.1; omega⟩, hpar⟩
  have := h.tell (R := zam x o.on.toNat) ht ho hT rfl rfl hP rfl
  unfold zam at this
  rw [zbj] at this
  exact this
theorem Fits.doSay (h : Fits p s) (ht : Turn p s t) (ho : t ∉ oT s) (hk : (opAt p s t).kind = 1) (hn : s.said.length < 64) : Fits p (goOn p (Go.Proofs.Ytppoohbkkdgljaa.sayIt s (opAt p s t).arg) t) := by
 have hv := zfK (h.opv ht) (.inl hk)
 exact h.tell (R := []) ht ho (h.things.say hv hn) rfl rfl (by rw [List.append_nil]; exact List.Perm.refl _) rfl
theorem zfP {o : OpD} (hk : 8 ≤ o.kind) : zv p o.kind = p.rooms.length := by
 unfold zv
 rw [if_neg (by omega), if_neg (by omega), if_neg (by omega), if_neg (by omega), if_neg (by omega)]
theorem Fits.doSend (h : Fits p s) (ht : Turn p s t) (ho : t ∉ oT s) (hk : (opAt p s t).kind = 8) (hn : s.said.length < 64) : Fits p (doSend p s t (opAt p s t)) := by
 have hv := h.opv ht
 obtain ⟨o, eo⟩ : ∃ o, o = opAt p s t := ⟨_, rfl⟩
 rw [← eo] at hv hk ⊢
 obtain ⟨h0, h1⟩ := zbO hv
 rw [zfP (by omega)] at h1
 have hi : o.on.toNat < s.chans.length := by rw [h.nch]; omega
 have hva := zfK hv (.inr (.inr hk))
 obtain ⟨x, ex⟩ : ∃ x, x = s.chans.getD o.on.toNat zy := ⟨_, rfl⟩
 obtain ⟨ok, hroom⟩ := h.ch _ hi
 rw [← ex] at ok hroom
 obtain ⟨k1, k2, k3, k4, k5, k6, k7⟩ := ok
 unfold Go.Proofs.Ytppoohbkkdgljaa.doSend
 rw [← ex]
 have hoi : ((o.on.toNat : Nat) : Int) = o.on := by omega
 unfold zaY
 by_cases hc : x.closed = true
 ·rw [if_pos hc]
  exact h.fail (by omega)
 ·rw [if_neg hc]
  have hcl : x.closed = false := by simpa using hc
  cases hg : x.getters with
  | cons g gs =>
   dsimp only
   rw [if_neg (by simp)]
   have hitems := (k7 (by rw [hg]; simp)).1
   have hsnd : x.senders = [] := by
    cases hs : x.senders with
    | nil => rfl
    | cons a l => have := (k6 (by rw [hs]; simp)).2.1; rw [hg] at this; cases this
   have hcount := zcX s o.on ⟨x.room, x.items, x.senders, gs, x.closed⟩ hi
   rw [← ex] at hcount
   have hP := zbd hcount
   have hsp : zY x o.on.toNat = [((g, 9, ((o.on.toNat : Nat) : Int), 0) : Ent)] ++ zY (⟨x.room, x.items, x.senders, gs, x.closed⟩ : ChnD) o.on.toNat := by
    unfold zY
    rw [hsnd, hg]
    rfl
   rw [hsp] at hP
   rw [hsnd, hg] at k5
   have hT : zU p (Go.Proofs.Ytppoohbkkdgljaa.sayIt (setChn s o.on ⟨x.room, x.items, x.senders, gs, x.closed⟩) o.arg) := (h.things.setChn (x := ⟨x.room, x.items, x.senders, gs, x.closed⟩) ⟨⟨k1, k2, k3, k4, by
    show thr6 (x.senders.map (·.1) ++ gs)
    rw [hsnd]
    exact zfG (l := [g]) k5, fun e => absurd hsnd e, fun _ => ⟨hitems, hcl⟩⟩, hroom⟩).say hva hn
   have := h.tell (R := [((g, 9, ((o.on.toNat : Nat) : Int), 0) : Ent)]) ht ho hT rfl rfl (zfh hP) rfl
   exact this
  | nil =>
   dsimp only
   by_cases hr : (x.items.length : Int) < x.room
   ·rw [if_pos hr]
    dsimp only
    rw [if_pos rfl]
    have hcount := zcX s o.on ⟨x.room, x.items ++ [o.arg], x.senders, [], x.closed⟩ hi
    rw [← ex] at hcount
    have hP := zbd hcount
    have hsp : zY (⟨x.room, x.items ++ [o.arg], x.senders, [], x.closed⟩ : ChnD) o.on.toNat = zY x o.on.toNat := by unfold zY; rw [hg]
    rw [hsp] at hP
    have hsnd : x.senders = [] := by
     cases hs : x.senders with
     | nil => rfl
     | cons a l => have := (k6 (by rw [hs]; simp)).1; omega
    have hT : zU p (setChn s o.on ⟨x.room, x.items ++ [o.arg], x.senders, [], x.closed⟩) := h.things.setChn ⟨⟨k1, by
     show (((x.items ++ [o.arg]).length : Nat) : Int) ≤ x.room
     rw [List.length_append]; simp; omega, fun v hv => by
     rcases xP1 hv with hv | hv
     ·exact k3 v hv
     ·rw [xS1 hv]; exact hva, k4, by rw [hg] at k5; exact k5, fun e => absurd hsnd e, fun e => absurd rfl e⟩, hroom⟩
    exact h.tell (R := []) ht ho hT rfl rfl (by rw [List.append_nil]; exact zcF hP) rfl
   ·rw [if_neg hr]
    dsimp only
    rw [if_pos rfl]
    have hcount := zcX s o.on ⟨x.room, x.items, x.senders ++ [(t, o.arg)], [], x.closed⟩ hi
    rw [← ex] at hcount
    have hP := zbd hcount
    have hsp : zY (⟨x.room, x.items, x.senders ++ [(t, o.arg)], [], x.closed⟩ : ChnD) o.on.toNat = zY x o.on.toNat ++ [want o t] := by
     unfold zY want
     rw [hg, if_pos (.inr hk), hk, List.map_append, hoi]
     simp
    rw [hsp] at hP
    have hin : ∀ u ∈ x.senders.map (·.1), u ∈ eT s := fun u hu => by
     obtain ⟨w, hw, rfl⟩ := List.mem_map.1 hu
     refine List.mem_map.2 ⟨(w.1, 8, ((o.on.toNat : Nat) : Int), w.2), zbA hi ?_, rfl⟩
     rw [← ex]
     exact xQ1 (.inl (List.mem_map.2 ⟨w, hw, rfl⟩))
    rw [hg, List.append_nil] at k5
    have hth := zde h ht k5 hin
    have hT : zU p (setChn s o.on ⟨x.room, x.items, x.senders ++ [(t, o.arg)], [], x.closed⟩) := h.things.setChn ⟨⟨k1, k2, k3, fun l hl => by
     rcases xP1 hl with hl | hl
     ·exact k4 l hl
     ·rw [xS1 hl]; exact hva, by
     show thr6 (List.map _ (x.senders ++ [(t, o.arg)]) ++ [])
     rw [List.append_nil, List.map_append]; exact hth.1, fun _ => ⟨by show (x.items.length : Int) = x.room; omega, rfl, hcl⟩, fun e => absurd rfl e⟩, hroom⟩
    refine h.wait ht ho hT rfl rfl (zc9 (N := zY x o.on.toNat) ?_) rfl
    rw [← eo]
    exact hP
theorem Fits.doGet (h : Fits p s) (ht : Turn p s t) (ho : t ∉ oT s) (hk : (opAt p s t).kind = 9) (hn : s.said.length < 64) : Fits p (doGet p s t (opAt p s t)) := by
 have hv := h.opv ht
 obtain ⟨o, eo⟩ : ∃ o, o = opAt p s t := ⟨_, rfl⟩
 rw [← eo] at hv hk ⊢
 obtain ⟨h0, h1⟩ := zbO hv
 rw [zfP (by omega)] at h1
 have hi : o.on.toNat < s.chans.length := by rw [h.nch]; omega
 obtain ⟨x, ex⟩ : ∃ x, x = s.chans.getD o.on.toNat zy := ⟨_, rfl⟩
 obtain ⟨ok, hroom⟩ := h.ch _ hi
 rw [← ex] at ok hroom
 obtain ⟨k1, k2, k3, k4, k5, k6, k7⟩ := ok
 unfold Go.Proofs.Ytppoohbkkdgljaa.doGet
 rw [← ex]
 have hoi : ((o.on.toNat : Nat) : Int) = o.on := by omega
 have hcount := zcX s o.on (zal x t).1 hi
 rw [← ex] at hcount
 have hP := zbd hcount
 cases hs : x.senders with
 | cons l ls =>
  obtain ⟨f1, f2, f3⟩ := k6 (by rw [hs]; simp)
  have hsp : zY x o.on.toNat = [((l.1, 8, ((o.on.toNat : Nat) : Int), l.2) : Ent)] ++ ls.map fun w => ((w.1, 8, ((o.on.toNat : Nat) : Int), w.2) : Ent) := by
   unfold zY
   rw [hs, f2]
   simp
  have hl2 := k4 l (by rw [hs]; simp)
  have k5' : thr6 (ls.map (·.1) ++ x.getters) := by
   rw [hs] at k5
   exact zfG (l := [l.1]) k5
  have k4' : ∀ w ∈ ls, 0 ≤ w.2 ∧ w.2 ≤ 99 := fun w hw => k4 w (by rw [hs]; exact List.mem_cons_of_mem _ hw)
  cases hit : x.items with
  | cons y ys =>
   have e : zal x t = (⟨x.room, ys ++ [l.2], ls, x.getters, x.closed⟩, y, 1, [l.1]) := by unfold zal; rw [hs, hit]
   rw [e] at hP ⊢
   rw [if_neg (show ¬ (1 : Int) = 0 by decide), if_pos rfl]
   have e2 : zY (⟨x.room, ys ++ [l.2], ls, x.getters, x.closed⟩ : ChnD) o.on.toNat = ls.map fun w => ((w.1, 8, ((o.on.toNat : Nat) : Int), w.2) : Ent) := by unfold zY; rw [f2]; simp
   rw [e2, hsp] at hP
   have hlen : (((ys ++ [l.2]).length : Nat) : Int) = x.room := by rw [hit] at f1; rw [← f1]; simp
   have hT : zU p (Go.Proofs.Ytppoohbkkdgljaa.sayIt (setChn s o.on ⟨x.room, ys ++ [l.2], ls, x.getters, x.closed⟩) y) := (h.things.setChn (x := ⟨x.room, ys ++ [l.2], ls, x.getters, x.closed⟩) ⟨⟨k1, by show (((ys ++ [l.2]).length : Nat) : Int) ≤ x.room; omega, fun v hv => by
    rcases xP1 hv with hv | hv
    ·exact k3 v (by rw [hit]; exact List.mem_cons_of_mem _ hv)
    ·rw [xS1 hv]; exact hl2, k4', k5', fun _ => ⟨hlen, f2, f3⟩, fun e => absurd f2 e⟩, hroom⟩).say (k3 y (by rw [hit]; simp)) hn
   exact h.tell (R := [((l.1, 8, ((o.on.toNat : Nat) : Int), l.2) : Ent)]) ht ho hT rfl rfl (zfh hP) rfl
  | nil =>
   have e : zal x t = (⟨x.room, [], ls, x.getters, x.closed⟩, l.2, 1, [l.1]) := by unfold zal; rw [hs, hit]
   rw [e] at hP ⊢
   rw [if_neg (show ¬ (1 : Int) = 0 by decide), if_pos rfl]
   have e2 : zY (⟨x.room, [], ls, x.getters, x.closed⟩ : ChnD) o.on.toNat = ls.map fun w => ((w.1, 8, ((o.on.toNat : Nat) : Int), w.2) : Ent) := by unfold zY; rw [f2]; simp
   rw [e2, hsp] at hP
   rw [hit] at f1
   have hT : zU p (Go.Proofs.Ytppoohbkkdgljaa.sayIt (setChn s o.on ⟨x.room, [], ls, x.getters, x.closed⟩) l.2) := (h.things.setChn (x := ⟨x.room, [], ls, x.getters, x.closed⟩) ⟨⟨k1, by rw [hit] at k2; exact k2, fun v hv => (by cases hv), k4', k5', fun _ => ⟨f1, f2, f3⟩, fun e => absurd f2 e⟩, hroom⟩).say hl2 hn
   exact h.tell (R := [((l.1, 8, ((o.on.toNat : Nat) : Int), l.2) : Ent)]) ht ho hT rfl rfl (zfh hP) rfl
 | nil =>
  rw [hs, List.map_nil, List.nil_append] at k5
  cases hit : x.items with
  | cons y ys =>
   have hg : x.getters = [] := by
    cases hg : x.getters with
    | nil => rfl
    | cons a l => have := (k7 (by rw [hg]; simp)).1; rw [hit] at this; cases this
   have e : zal x t = (⟨x.room, ys, [], x.getters, x.closed⟩, y, 1, []) := by unfold zal; rw [hs, hit]
   rw [e] at hP ⊢
   rw [if_neg (show ¬ (1 : Int) = 0 by decide), if_pos rfl]
   have e2 : zY (⟨x.room, ys, [], x.getters, x.closed⟩ : ChnD) o.on.toNat = zY x o.on.toNat := by unfold zY; rw [hs]
   rw [e2] at hP
   have hT : zU p (Go.Proofs.Ytppoohbkkdgljaa.sayIt (setChn s o.on ⟨x.room, ys, [], x.getters, x.closed⟩) y) := (h.things.setChn (x := ⟨x.room, ys, [], x.getters, x.closed⟩) ⟨⟨k1, by
    show ((ys.length : Nat) : Int) ≤ x.room
    rw [hit, List.length_cons] at k2; omega, fun v hv => k3 v (by rw [hit]; exact List.mem_cons_of_mem _ hv), fun l hl => (by cases hl), by show thr6 ([] ++ x.getters); exact k5, fun e => absurd rfl e, fun e => absurd hg e⟩, hroom⟩).say (k3 y (by rw [hit]; simp)) hn
   exact h.tell (R := []) ht ho hT rfl rfl (by rw [List.append_nil]; exact zcF hP) rfl
  | nil =>
   by_cases hc : x.closed = true
   ·have e : zal x t = (x, 0, 2, []) := by unfold zal; rw [hs, hit]; dsimp only; rw [if_pos hc]
    rw [e] at hP ⊢
    rw [if_neg (show ¬ (2 : Int) = 0 by decide), if_neg (show ¬ (2 : Int) = 1 by decide)]
    have hT : zU p (setChn s o.on x) := h.things.setChn ⟨⟨k1, k2, k3, k4, by rw [hs]; exact k5, k6, k7⟩, hroom⟩
    exact h.tell (R := []) ht ho hT rfl rfl (by rw [List.append_nil]; exact zcF hP) rfl
   ·have hcl : x.closed = false := by simpa using hc
    have e : zal x t = (⟨x.room, [], [], x.getters ++ [t], x.closed⟩, 0, 0, []) := by unfold zal; rw [hs, hit]; dsimp only; rw [if_neg hc]
    rw [e] at hP ⊢
    rw [if_pos rfl]
    have hin : ∀ u ∈ x.getters, u ∈ eT s := fun u hu => by
     refine List.mem_map.2 ⟨(u, 9, ((o.on.toNat : Nat) : Int), 0), zbA hi ?_, rfl⟩
     rw [← ex]
     exact xQ1 (.inr (List.mem_map.2 ⟨u, hu, rfl⟩))
    have hth := zde h ht k5 hin
    have hT : zU p (setChn s o.on ⟨x.room, [], [], x.getters ++ [t], x.closed⟩) := h.things.setChn (x := ⟨x.room, [], [], x.getters ++ [t], x.closed⟩) ⟨⟨k1, by rw [hit] at k2; exact k2, fun v hv => (by cases hv), fun l hl => (by cases hl), by show thr6 ([] ++ (x.getters ++ [t])); exact hth.1, fun e => absurd rfl e, fun _ => ⟨rfl, hcl⟩⟩, hroom⟩
    refine h.wait ht ho hT rfl rfl (zc9 (N := zY x o.on.toNat) ?_) rfl
    rw [← eo]
    have e2 : zY (⟨x.room, [], [], x.getters ++ [t], x.closed⟩ : ChnD) o.on.toNat = zY x o.on.toNat ++ [want o t] := by
     unfold zY want
     rw [hs, if_neg (by omega), hk, hoi]
     simp
    rw [e2] at hP
    exact hP
theorem Fits.doClose (h : Fits p s) (ht : Turn p s t) (ho : t ∉ oT s) (hk : (opAt p s t).kind = 10) : Fits p (doClose p s t (opAt p s t)) := by
 have hv := h.opv ht
 obtain ⟨o, eo⟩ : ∃ o, o = opAt p s t := ⟨_, rfl⟩
 rw [← eo] at hv hk ⊢
 obtain ⟨h0, h1⟩ := zbO hv
 rw [zfP (by omega)] at h1
 have hi : o.on.toNat < s.chans.length := by rw [h.nch]; omega
 obtain ⟨x, ex⟩ : ∃ x, x = s.chans.getD o.on.toNat zy := ⟨_, rfl⟩
 obtain ⟨ok, hroom⟩ := h.ch _ hi
 rw [← ex] at ok hroom
 obtain ⟨k1, k2, k3, k4, k5, k6, k7⟩ := ok
 unfold Go.Proofs.Ytppoohbkkdgljaa.doClose
 rw [← ex]
 unfold zbu
 by_cases hc : x.closed = true ∨ x.senders ≠ []
 ·rw [if_pos hc]
  exact h.fail (by omega)
 ·rw [if_neg hc]
  have hsnd : x.senders = [] := by
   by_cases hs : x.senders = []
   ·exact hs
   ·exact absurd (.inr hs) hc
  dsimp only
  have hcount := zcX s o.on ⟨x.room, x.items, x.senders, [], true⟩ hi
  rw [← ex] at hcount
  have hP := zbd hcount
  have e1 : zY (⟨x.room, x.items, x.senders, [], true⟩ : ChnD) o.on.toNat = [] := by unfold zY; rw [hsnd]; rfl
  have e2 : zY x o.on.toNat = x.getters.map fun u => ((u, 9, ((o.on.toNat : Nat) : Int), 0) : Ent) := by unfold zY; rw [hsnd]; rfl
  rw [e1, e2, List.append_nil] at hP
  have hT : zU p (setChn s o.on ⟨x.room, x.items, x.senders, [], true⟩) := h.things.setChn ⟨⟨k1, k2, k3, k4, by
   show thr6 (x.senders.map (·.1) ++ [])
   rw [hsnd]; exact zcf, fun e => absurd hsnd e, fun e => absurd rfl e⟩, hroom⟩
  have := h.tell (R := x.getters.map fun u => ((u, 9, ((o.on.toNat : Nat) : Int), 0) : Ent)) ht ho hT rfl rfl hP rfl
  rw [zbj] at this
  exact this
end
theorem ziG : ∀ (l : List Int) (i : Nat) (x : Int), i < l.length → (l.set i x).sum = l.sum - l.getD i 0 + x
 | [], _, _, h => by simp at h
 | a :: l, 0, x, _ => by simp; omega
 | a :: l, i + 1, x, h => by
  have ih := ziG l i x (by simpa using h)
  simp only [List.set_cons_succ, List.sum_cons, List.getD_cons_succ]
  omega
theorem zjj : ∀ (l : List Int) (n : Int), (∀ x ∈ l, x ≤ n) → l.sum ≤ n * l.length
 | [], n, _ => by simp
 | a :: l, n, h => by
  have ih := zjj l n (fun x hx => h x (List.mem_cons_of_mem _ hx))
  have h1 := h a (by simp)
  have e : n * ((a :: l).length : Int) = n * (l.length : Int) + n := by
   rw [List.length_cons]
   have : ((l.length + 1 : Nat) : Int) = (l.length : Int) + 1 := by omega
   rw [this, Int.mul_add, Int.mul_one]
  rw [List.sum_cons, e]
  omega
section
variable {p : Pg}
theorem zgp (s : StD) (t : Int) (h : t.toNat < s.places.length) : (goOn p s t).places.sum = s.places.sum + 1 := by
 show (s.places.set t.toNat _).sum = _
 rw [ziG _ _ _ h]; omega
theorem zeN (s : StD) (t : Int) : s.places.sum ≤ (goOn p s t).places.sum := by
 by_cases h : t.toNat < s.places.length
 ·rw [zgp s t h]; omega
 ·show s.places.sum ≤ (s.places.set t.toNat _).sum
  rw [List.set_eq_of_length_le (by omega)]
  exact Int.le_refl _
theorem zbG : ∀ (l : List Int) (s : StD), s.places.sum ≤ (goAll p s l).places.sum
 | [], _ => Int.le_refl _
 | t :: l, s => Int.le_trans (zeN s t) (zbG l (goOn p s t))
theorem zdD (l : List Int) (s : StD) (t : Int) (h : t.toNat < s.places.length) : s.places.sum + 1 ≤ (goAll p s (l ++ [t])).places.sum := by
 rw [← zfa, zgp _ _ (by rw [zaA]; exact h)]
 have := zbG (p := p) l s
 omega
structure Run (p : Pg) (s : StD) : Prop where
 fits : Fits p s
 said : (s.said.length : Int) ≤ s.places.sum
 rnd : ∀ i, (s.bars.getD i zx).round ≤ s.places.sum
theorem Fits.places8 {s : StD} (h : Fits p s) : ∀ x ∈ s.places, x ≤ 8 := by
 intro x hx
 obtain ⟨i, hi, rfl⟩ := List.mem_iff_getElem.1 hx
 rw [h.np] at hi
 have h1 := h.th i hi
 unfold thOk at h1
 rw [show ((i : Nat) : Int).toNat = i by simp, zd3] at h1
 have e : s.places.getD i 0 = s.places[i]'(by rw [h.np]; exact hi) := by rw [List.getD_eq_getElem?_getD, List.getElem?_eq_getElem (by rw [h.np]; exact hi)]; rfl
 rw [e] at h1
 have h8 : (p.threads.getD i []).length ≤ 8 := by
  have hv := h.prog
  unfold zq at hv
  simp only [Bool.and_eq_true, List.all_eq_true, decide_eq_true_eq] at hv
  rw [List.getD_eq_getElem?_getD, List.getElem?_eq_getElem hi]
  exact (hv.2 _ (List.getElem_mem hi)).1
 omega
theorem Fits.sum32 {s : StD} (h : Fits p s) : s.places.sum ≤ 32 := by
 have h1 := zjj s.places 8 h.places8
 have h2 := (zc5 h.prog).2
 have h3 := h.np
 omega
theorem Run.of {s s' : StD} (h : Run p s) (hF : Fits p s') (hs : s.places.sum ≤ s'.places.sum) (h1 : s'.said.length ≤ s.said.length ∨ (s'.said.length ≤ s.said.length + 1 ∧ s.places.sum + 1 ≤ s'.places.sum)) (h2 : ∀ i, (s'.bars.getD i zx).round ≤ (s.bars.getD i zx).round ∨ ((s'.bars.getD i zx).round ≤ (s.bars.getD i zx).round + 1 ∧ s.places.sum + 1 ≤ s'.places.sum)) : Run p s' := by
 refine ⟨hF, ?_, fun i => ?_⟩
 ·have := h.said; omega
 ·have := h.rnd i; have := h2 i; omega
theorem Run.keep {s s' : StD} (h : Run p s) (hF : Fits p s') (hs : s.places.sum ≤ s'.places.sum) (h1 : s'.said = s.said) (h2 : s'.bars = s.bars) : Run p s' :=
 h.of hF hs (.inl (by rw [h1]; exact Nat.le_refl _)) (fun i => .inl (by rw [h2]; exact Int.le_refl _))
theorem Run.spoken {s s' : StD} (h : Run p s) (hF : Fits p s') (hs : s.places.sum + 1 ≤ s'.places.sum) (h1 : s'.said.length ≤ s.said.length + 1) (h2 : s'.bars = s.bars) : Run p s' :=
 h.of hF (by omega) (.inr ⟨h1, hs⟩) (fun i => .inl (by rw [h2]; exact Int.le_refl _))
theorem zdN (s : StD) (t : Int) (b : Bool) : (za1 p s t b).said = s.said := by unfold za1; split <;> rfl
theorem zdH (s : StD) (t : Int) (b : Bool) : (za1 p s t b).bars = s.bars := by unfold za1; split <;> rfl
theorem ze8 (s : StD) (t : Int) (b : Bool) : s.places.sum ≤ (za1 p s t b).places.sum := by
 unfold za1
 split
 ·exact zeN s t
 ·exact Int.le_refl _
theorem Run.step {s : StD} {t : Int} (h : Run p s) (ht : Turn p s t) : Run p (zI p s t) := by
 have hF := h.fits
 have hs32 := hF.sum32
 have hsaid : s.said.length < 64 := by have := h.said; omega
 have hrd : ∀ i, (s.bars.getD i zx).round < 9999 := fun i => by have := h.rnd i; omega
 have htl : t.toNat < s.places.length := by have := ht.rg; rw [hF.np]; omega
 have hk := zfT (hF.opv ht)
 have hno : (opAt p s t).kind ≠ 4 → t ∉ oT s := fun hne => by
  rcases ht.st with ⟨-, h1⟩ | ⟨-, h1, -⟩
  ·exact h1
  ·exact absurd h1 hne
 unfold zI
 by_cases k1 : (opAt p s t).kind = 1
 ·rw [if_pos k1]
  refine h.spoken (hF.doSay ht (hno (by omega)) k1 hsaid) ?_ ?_ rfl
  ·have e := zgp (p := p) (sayIt s (opAt p s t).arg) t htl
   rw [e]
   exact Int.le_refl _
  ·show (s.said ++ [(opAt p s t).arg]).length ≤ _
   rw [List.length_append]; exact Nat.le_refl _
 rw [if_neg k1]
 by_cases k2 : (opAt p s t).kind = 2
 ·rw [if_pos k2]
  exact h.keep (hF.doSem ht (hno (by omega)) k2) (ze8 _ _ _) (zdN _ _ _) (zdH _ _ _)
 rw [if_neg k2]
 by_cases k3 : (opAt p s t).kind = 3
 ·rw [if_pos k3]
  have hf := hF.doRel ht (hno (by omega)) k3
  revert hf
  unfold doRel
  cases zbX (s.sems.getD (opAt p s t).on.toNat zE) (opAt p s t).arg with
  | none => exact fun hf => h.keep hf (Int.le_refl _) rfl rfl
  | some x => exact fun hf => h.keep hf (zbG _ _) (zaP _ _) (zaQ _ _)
 rw [if_neg k3]
 by_cases k4 : (opAt p s t).kind = 4
 ·rw [if_pos k4]
  have hf := hF.doOnce ht k4
  revert hf
  unfold doOnce
  split
  ·exact fun hf => h.keep hf (zbG _ _) (zaP _ _) (zaQ _ _)
  ·split
   ·exact fun hf => h.keep hf (Int.le_refl _) rfl rfl
   ·split
    ·exact fun hf => h.keep hf (Int.le_refl _) rfl rfl
    ·exact fun hf => h.keep hf (zeN _ _) rfl rfl
 rw [if_neg k4]
 by_cases k5 : (opAt p s t).kind = 5
 ·rw [if_pos k5]
  have hf := hF.doAdd ht (hno (by omega)) k5
  revert hf
  unfold doAdd
  cases zbE (s.groups.getD (opAt p s t).on.toNat zK) (opAt p s t).arg with
  | none => exact fun hf => h.keep hf (Int.le_refl _) rfl rfl
  | some x => exact fun hf => h.keep hf (zbG _ _) (zaP _ _) (zaQ _ _)
 rw [if_neg k5]
 by_cases k6 : (opAt p s t).kind = 6
 ·rw [if_pos k6]
  exact h.keep (hF.doWait ht (hno (by omega)) k6) (ze8 _ _ _) (zdN _ _ _) (zdH _ _ _)
 rw [if_neg k6]
 by_cases k7 : (opAt p s t).kind = 7
 ·rw [if_pos k7]
  have hf := hF.doCome ht (hno (by omega)) k7 hrd
  revert hf
  unfold doCome
  obtain ⟨o, eo⟩ : ∃ o, o = opAt p s t := ⟨_, rfl⟩
  rw [← eo]
  have hset : ∀ (y : BarD) (d : Int), y.round ≤ (s.bars.getD o.on.toNat zx).round + d → 0 ≤ d → ∀ i, ((setBar s o.on y).bars.getD i zx).round ≤ (s.bars.getD i zx).round + d := by
   intro y d hy hd i
   show ((s.bars.set o.on.toNat y).getD i zx).round ≤ _
   rw [zax]
   by_cases hi : i = o.on.toNat ∧ o.on.toNat < s.bars.length
   ·rw [if_pos hi, hi.1]; exact hy
   ·rw [if_neg hi]; omega
  by_cases hlt : ((s.bars.getD o.on.toNat zx).waits.length : Int) + 1 < (s.bars.getD o.on.toNat zx).parties
  ·have e : zaN (s.bars.getD o.on.toNat zx) t = (⟨(s.bars.getD o.on.toNat zx).parties, (s.bars.getD o.on.toNat zx).round, (s.bars.getD o.on.toNat zx).waits ++ [t]⟩, []) := by unfold zaN; rw [if_pos hlt]
   rw [e, if_pos rfl]
   intro hf
   refine h.of hf (Int.le_refl _) (.inl xL1) (fun i => .inl ?_)
   have := hset ⟨(s.bars.getD o.on.toNat zx).parties, (s.bars.getD o.on.toNat zx).round, (s.bars.getD o.on.toNat zx).waits ++ [t]⟩ 0 (by show (s.bars.getD o.on.toNat zx).round ≤ _; omega) (by omega) i
   rw [Int.add_zero] at this
   exact this
  ·have e : zaN (s.bars.getD o.on.toNat zx) t = (⟨(s.bars.getD o.on.toNat zx).parties, (s.bars.getD o.on.toNat zx).round + 1, []⟩, (s.bars.getD o.on.toNat zx).waits ++ [t]) := by unfold zaN; rw [if_neg hlt]
   rw [e, if_neg (by simp)]
   intro hf
   have hsum : s.places.sum + 1 ≤ (goAll p (setBar s o.on ⟨(s.bars.getD o.on.toNat zx).parties, (s.bars.getD o.on.toNat zx).round + 1, []⟩) ((s.bars.getD o.on.toNat zx).waits ++ [t])).places.sum := zdD (p := p) (s.bars.getD o.on.toNat zx).waits (setBar s o.on ⟨(s.bars.getD o.on.toNat zx).parties, (s.bars.getD o.on.toNat zx).round + 1, []⟩) t htl
   refine h.of hf (Int.le_trans (by omega) hsum) (.inl (by rw [zaP]; exact Nat.le_refl _)) (fun i => .inr ⟨?_, hsum⟩)
   rw [zaQ]
   exact hset ⟨(s.bars.getD o.on.toNat zx).parties, (s.bars.getD o.on.toNat zx).round + 1, []⟩ 1 (Int.le_refl _) (by omega) i
 rw [if_neg k7]
 by_cases k8 : (opAt p s t).kind = 8
 ·rw [if_pos k8]
  have hf := hF.doSend ht (hno (by omega)) k8 hsaid
  revert hf
  unfold doSend
  cases hc : zaY (s.chans.getD (opAt p s t).on.toNat zy) t (opAt p s t).arg with
  | none => exact fun hf => h.keep hf (Int.le_refl _) rfl rfl
  | some x =>
   obtain ⟨x, l, b⟩ := x
   dsimp only
   by_cases hl : l = []
   ·rw [if_pos hl]
    intro hf
    refine h.keep hf (Int.le_trans (zbG (p := p) l (setChn s (opAt p s t).on x)) (ze8 _ _ _)) ?_ ?_
    ·rw [zdN, zaP]; rfl
    ·rw [zdH, zaQ]; rfl
   ·rw [if_neg hl]
    intro hf
    have hb : b = true := by
     unfold zaY at hc
     split at hc
     ·cases hc
     ·split at hc
      ·cases hc; rfl
      ·split at hc
       ·cases hc; exact absurd rfl hl
       ·cases hc; exact absurd rfl hl
    subst hb
    refine h.spoken hf ?_ ?_ ?_
    ·unfold za1
     rw [if_pos rfl, zfa]
     exact zdD _ (sayIt (setChn s (opAt p s t).on x) (opAt p s t).arg) t htl
    ·rw [zdN, zaP]
     show (s.said ++ [(opAt p s t).arg]).length ≤ _
     rw [List.length_append]; exact Nat.le_refl _
    ·rw [zdH, zaQ]; rfl
 rw [if_neg k8]
 by_cases k9 : (opAt p s t).kind = 9
 ·rw [if_pos k9]
  have hf := hF.doGet ht (hno (by omega)) k9 hsaid
  revert hf
  unfold doGet
  split
  ·exact fun hf => h.keep hf (Int.le_refl _) rfl rfl
  ·split
   ·intro hf
    refine h.spoken hf (zdD _ (sayIt _ _) t htl) ?_ ?_
    ·rw [zaP]
     show (s.said ++ [_]).length ≤ _
     rw [List.length_append]; exact Nat.le_refl _
    ·rw [zaQ]; rfl
   ·exact fun hf => h.keep hf (zbG _ _) (zaP _ _) (zaQ _ _)
 rw [if_neg k9]
 have hf := hF.doClose ht (hno (by omega)) (by omega)
 revert hf
 unfold doClose
 cases zbu (s.chans.getD (opAt p s t).on.toNat zy) with
 | none => exact fun hf => h.keep hf (Int.le_refl _) rfl rfl
 | some x => exact fun hf => h.keep hf (zbG _ _) (zaP _ _) (zaQ _ _)
end
theorem zeb {l : List Int} {lo hi : Int} (h : zae l lo hi = true) {i : Nat} (hi' : i < l.length) : lo ≤ l.getD i 0 ∧ l.getD i 0 ≤ hi := by
 unfold zae at h
 simp only [Bool.and_eq_true, List.all_eq_true, decide_eq_true_eq] at h
 rw [List.getD_eq_getElem?_getD, List.getElem?_eq_getElem hi']
 exact h.2 _ (List.getElem_mem hi')
theorem zdE {α β : Type} (f : α → β) (l : List α) (d : α) (e : β) {i : Nat} (hi : i < l.length) : (l.map f).getD i e = f (l.getD i d) := by
 rw [List.getD_eq_getElem?_getD, List.getElem?_map, List.getElem?_eq_getElem hi, List.getD_eq_getElem?_getD, List.getElem?_eq_getElem hi]
 rfl
theorem zdb {α : Type} {f : Nat → List α} : ∀ {n : Nat}, (∀ i, i < n → f i = []) → allE f n = []
 | 0, _ => rfl
 | n + 1, h => by rw [allE, zdb (fun i hi => h i (by omega)), h n (by omega)]; rfl
theorem Run.start {p : Pg} (hv : zq p = true) : Run p (zad p) := by
 have hv' := hv
 unfold zq at hv'
 simp only [Bool.and_eq_true] at hv'
 obtain ⟨⟨⟨⟨⟨⟨w1, w2⟩, w3⟩, w4⟩, -⟩, -⟩, -⟩ := hv'
 have gS : ∀ i, i < p.sems.length → (zad p).sems.getD i zE = ⟨p.sems.getD i 0, p.sems.getD i 0, []⟩ := fun i hi => zdE (fun n : Int => (⟨n, n, []⟩ : SemD)) p.sems 0 zE hi
 have gO : ∀ i, i < 3 → (zad p).onces.getD i zp = zp := fun i hi => by
  show (List.replicate 3 zp).getD i zp = zp
  rw [List.getD_eq_getElem?_getD, List.getElem?_replicate]
  split <;> rfl
 have gG : ∀ i, i < p.groups.length → (zad p).groups.getD i zK = ⟨p.groups.getD i 0, []⟩ := fun i hi => zdE (fun n : Int => (⟨n, []⟩ : GrpD)) p.groups 0 zK hi
 have gB : ∀ i, i < p.barriers.length → (zad p).bars.getD i zx = ⟨p.barriers.getD i 0, 0, []⟩ := fun i hi => zdE (fun n : Int => (⟨n, 0, []⟩ : BarD)) p.barriers 0 zx hi
 have gC : ∀ i, i < p.rooms.length → (zad p).chans.getD i zy = ⟨p.rooms.getD i 0, [], [], [], false⟩ := fun i hi => zdE (fun n : Int => (⟨n, [], [], [], false⟩ : ChnD)) p.rooms 0 zy hi
 have l1 : (zad p).sems.length = p.sems.length := List.length_map _
 have l2 : (zad p).onces.length = 3 := List.length_replicate
 have l3 : (zad p).groups.length = p.groups.length := List.length_map _
 have l4 : (zad p).bars.length = p.barriers.length := List.length_map _
 have l5 : (zad p).chans.length = p.rooms.length := List.length_map _
 have l6 : (zad p).places.length = p.threads.length := List.length_map _
 have l7 : (zad p).status.length = p.threads.length := List.length_map _
 have eE : ents (zad p) = [] := by
  unfold ents
  rw [zdb (fun i hi => by rw [gS i (by omega)]; rfl), zdb (fun i hi => by rw [gO i (by omega)]; rfl), zdb (fun i hi => by rw [gG i (by omega)]; rfl), zdb (fun i hi => by rw [gB i (by omega)]; rfl), zdb (fun i hi => by rw [gC i (by omega)]; rfl)]
  rfl
 have eO : owns (zad p) = [] := by
  unfold owns
  exact zdb (fun i hi => by rw [gO i (by omega)]; rfl)
 have eTn : eT (zad p) = [] := by unfold eT; rw [eE]; rfl
 have oTn : oT (zad p) = [] := by unfold oT; rw [eO]; rfl
 have hsum : (zad p).places.sum = 0 := by
  show (p.threads.map fun _ => (0 : Int)).sum = 0
  generalize p.threads = l
  induction l with
  | nil => rfl
  | cons a l ih => simpa using ih
 refine ⟨⟨hv, l6, l7, l1, l2, l3, l4, l5, by show (0 : Nat) ≤ 64; omega, ⟨by show (0 : Int) ≤ 0; omega, by show (0 : Int) ≤ 4; omega⟩, fun i hi => ?_, fun i hi => ?_, fun i hi => ?_, fun i hi => ?_, fun i hi => ?_, fun v hv => (by cases hv), by rw [eE]; simp, by rw [eO]; simp, by rw [eTn]; simp, by rw [oTn]; simp, fun t ht => ?_⟩, by rw [hsum]; exact Int.le_refl _, fun i => ?_⟩
 ·rw [gS i (by omega)]
  have := zeb w1 (i := i) (by omega)
  exact ⟨⟨this, ⟨by show 0 ≤ p.sems.getD i 0; omega, Int.le_refl _⟩, fun w hw => (by cases hw), zcf, fun w q h => (by cases h)⟩, rfl⟩
 ·rw [gO i (by omega)]
  exact .inl ⟨rfl, rfl, rfl, rfl⟩
 ·rw [gG i (by omega)]
  have := zeb w2 (i := i) (by omega)
  exact ⟨⟨this.1, by show p.groups.getD i 0 ≤ 99; omega⟩, zcf, fun _ => rfl⟩
 ·rw [gB i (by omega)]
  have := zeb w3 (i := i) (by omega)
  exact ⟨⟨this, ⟨Int.le_refl _, by show (0 : Int) ≤ 9999; omega⟩, zcf, by show ((0 : Nat) : Int) < p.barriers.getD i 0; omega⟩, rfl⟩
 ·rw [gC i (by omega)]
  have := zeb w4 (i := i) (by omega)
  exact ⟨⟨this, this.1, fun v hv => (by cases hv), fun l hl => (by cases hl), zcf, fun e => absurd rfl e, fun e => absurd rfl e⟩, rfl⟩
 ·unfold thOk
  rw [eTn, oTn]
  have e1 : (zad p).places.getD ((t : Nat) : Int).toNat 0 = 0 := by
   rw [show ((t : Nat) : Int).toNat = t by simp]
   exact zdE (fun _ : List OpD => (0 : Int)) p.threads [] 0 ht
  have e2 : (zad p).status.getD ((t : Nat) : Int).toNat 0 = if (p.threads.getD t []).length = 0 then 3 else 0 := by
   rw [show ((t : Nat) : Int).toNat = t by simp]
   exact zdE (fun l : List OpD => if l.length = 0 then (3 : Int) else 0) p.threads [] 0 ht
  rw [e1, e2, zd3]
  refine ⟨Int.le_refl _, by omega, ?_⟩
  by_cases h0 : (p.threads.getD t []).length = 0
  ·rw [if_pos h0, h0]
   exact .inl ⟨rfl, rfl, by simp, by simp⟩
  ·rw [if_neg h0]
   exact .inr ⟨by omega, .inl ⟨rfl, by simp, by simp⟩⟩
 ·rw [hsum]
  by_cases hi : i < p.barriers.length
  ·rw [gB i hi]; exact Int.le_refl _
  ·rw [List.getD_eq_getElem?_getD, List.getElem?_eq_none (by omega)]
   exact Int.le_refl _
end Go.Proofs.Ytppoohbkkdgljaa
namespace Go.Proofs.Ytppoohbkkdgljaa
open Go.RowKit
def Told (p : Pg) (s : StD) (l : List Int) : Prop := l.length ≤ 8 ∧ ∀ z ∈ l, 0 ≤ z ∧ z < p.threads.length ∧ z < s.places.length
theorem zeu {w W0 W : World} {k : List It} {v : StV} {L : StL} {s : StD} (h : Sf w W0 k v L s) {u : SlV} {l : List Int} {E : TypeId} (ho : W.ownsRow W0.heap.size E 1 u.val u.n (ints l)) (hE : E ∉ ze4 := by decide) : SlR v.blks W u (ints l) l.length := by
 have h1 := h.apart (SlN.of_owns (w0 := W0) (w := W) ho xL1 hE)
 have h2 : u.n = l.length := by have := ho.1; simp only [ints, List.length_map] at this; omega
 exact ⟨h2, h1.rd, h1.far.imp id (fun h b hb hm => h b hb (xQ1 (.inr hm))), h1.cap⟩
theorem SlR.drew {S : List Nat} {w : World} {s : SlV} {cs : List Value} {k : Nat} (h : SlR S w s cs k) : SlR S w.drew s cs k := h.below xB1.drew
variable {p : Pg} {s : StD}
theorem Fits.told {l : List Int} (h : Fits p s) (hm : ∀ z ∈ l, z ∈ eT s) (hl : l.length ≤ 6) : Told p s l :=
 ⟨by omega, fun z hz => by have := (h.waits (hm z hz)).1; have := h.np; omega⟩
theorem zda : Told p s [] := ⟨by simp, by simp⟩
theorem zjT (h : Fits p s) {i : Nat} (hi : i < s.sems.length) {m : Int} (hm : 0 ≤ m) {y : SemD} {l : List Int} (e : zbX (s.sems.getD i zE) m = some (y, l)) : Told p s l := by
 have ok := (h.se i hi).1
 unfold zbX at e
 split at e
 ·obtain ⟨P, N, e1, e2, -⟩ := zeK (s.sems.getD i zE).queue ((s.sems.getD i zE).free + m) (by have := ok.2.1; omega) (fun w hw => (ok.2.2.1 w hw).1)
  obtain rfl : l = P.map (·.1) := by rw [← e2]; exact (Prod.mk.inj (Option.some.inj e)).2.symm
  have h6 : (s.sems.getD i zE).queue.length ≤ 6 := by simpa using ok.2.2.2.1.1
  refine h.told (fun z hz => ?_) (by rw [List.length_map]; rw [e1, List.length_append] at h6; omega)
  obtain ⟨y, hy, rfl⟩ := List.mem_map.1 hz
  exact List.mem_map.2 ⟨(y.1, 2, (i : Int), y.2), zdM hi (List.mem_map.2 ⟨y, by rw [e1]; exact xQ1 (.inl hy), rfl⟩), rfl⟩
 ·cases e
theorem zjg (h : Fits p s) {i : Nat} (hi : i < s.onces.length) : Told p s (s.onces.getD i zp).waits :=
 h.told (fun z hz => List.mem_map.2 ⟨(z, 4, (i : Int), 0), zdr hi (List.mem_map.2 ⟨z, hz, rfl⟩), rfl⟩) (zgE (h.on i hi))
theorem zjd (h : Fits p s) {i : Nat} (hi : i < s.groups.length) : Told p s (s.groups.getD i zK).waits :=
 h.told (fun z hz => List.mem_map.2 ⟨(z, 6, (i : Int), 0), zdI hi (List.mem_map.2 ⟨z, hz, rfl⟩), rfl⟩) (h.gr i hi).2.1.1
theorem zjW (h : Fits p s) {i : Nat} (hi : i < s.groups.length) {m : Int} {y : GrpD} {l : List Int} (e : zbE (s.groups.getD i zK) m = some (y, l)) : Told p s l := by
 have h1 := zjd h hi
 unfold zbE at e
 split at e
 ·split at e
  ·obtain rfl := (Prod.mk.inj (Option.some.inj e)).2
   exact h1
  ·obtain rfl := (Prod.mk.inj (Option.some.inj e)).2
   exact zda
 ·cases e
theorem zjA (h : Fits p s) {i : Nat} (hi : i < s.bars.length) {t : Int} (ht : 0 ≤ t ∧ t < p.threads.length ∧ t < s.places.length) {y : BarD} {l : List Int} (e : zaN (s.bars.getD i zx) t = (y, l)) : Told p s l := by
 have h1 : Told p s (s.bars.getD i zx).waits := h.told (fun z hz => List.mem_map.2 ⟨(z, 7, (i : Int), 0), zdO hi (List.mem_map.2 ⟨z, hz, rfl⟩), rfl⟩) (h.ba i hi).1.2.2.1.1
 have h6 := (h.ba i hi).1.2.2.1.1
 unfold zaN at e
 split at e
 ·obtain rfl := (Prod.mk.inj e).2
  exact zda
 ·obtain rfl := (Prod.mk.inj e).2
  refine ⟨by rw [List.length_append]; show _ + 1 ≤ 8; omega, fun z hz => ?_⟩
  rcases xP1 hz with hz | hz
  ·exact h1.2 z hz
  ·obtain rfl := xS1 hz
   exact ht
theorem zhz (h : Fits p s) {i : Nat} (hi : i < s.chans.length) : Told p s (s.chans.getD i zy).getters :=
 h.told (fun z hz => List.mem_map.2 ⟨(z, 9, (i : Int), 0), zbA hi (xQ1 (.inr (List.mem_map.2 ⟨z, hz, rfl⟩))), rfl⟩) (by have := (h.ch i hi).1.2.2.2.2.1.1; rw [List.length_append] at this; omega)
theorem zfw {i : Nat} (hi : i < s.chans.length) : ∀ z ∈ (s.chans.getD i zy).senders, z.1 ∈ eT s := fun z hz =>
 List.mem_map.2 ⟨(z.1, 8, (i : Int), z.2), zbA hi (xQ1 (.inl (List.mem_map.2 ⟨z, hz, rfl⟩))), rfl⟩
theorem zjc (h : Fits p s) {i : Nat} (hi : i < s.chans.length) {t v : Int} {y : ChnD} {l : List Int} {b : Bool} (e : zaY (s.chans.getD i zy) t v = some (y, l, b)) : Told p s l ∧ (l = [] ∨ ∃ g, l = [g] ∧ b = true) := by
 have h1 := zhz h hi
 unfold zaY at e
 split at e
 ·cases e
 ·split at e
  ·next g gs eg =>
   obtain rfl : [g] = l := (Prod.mk.inj (Prod.mk.inj (Option.some.inj e)).2).1
   exact ⟨⟨by simp, fun z hz => h1.2 z (by rw [eg, xS1 hz]; exact List.mem_cons_self)⟩, .inr ⟨g, rfl, (Prod.mk.inj (Prod.mk.inj (Option.some.inj e)).2).2.symm⟩⟩
  ·split at e
   ·obtain rfl := (Prod.mk.inj (Prod.mk.inj (Option.some.inj e)).2).1
    exact ⟨zda, .inl rfl⟩
   ·obtain rfl := (Prod.mk.inj (Prod.mk.inj (Option.some.inj e)).2).1
    exact ⟨zda, .inl rfl⟩
theorem zjw (h : Fits p s) {i : Nat} (hi : i < s.chans.length) {t v how : Int} {y : ChnD} {l : List Int} (e : zal (s.chans.getD i zy) t = (y, v, how, l)) : Told p s l ∧ (how = 0 → l = []) ∧ (how = 0 ∨ how = 1 ∨ how = 2) := by
 have h1 := zfw hi
 have one : ∀ z, (z : Int × Int) ∈ (s.chans.getD i zy).senders → Told p s [z.1] := fun z hz => h.told (fun a ha => by rw [xS1 ha]; exact h1 z hz) (by simp)
 unfold zal at e
 split at e
 ·next l1 ls es =>
  split at e
  ·obtain ⟨-, e1⟩ := Prod.mk.inj e
   obtain ⟨-, e2⟩ := Prod.mk.inj e1
   obtain ⟨rfl, rfl⟩ := Prod.mk.inj e2
   exact ⟨one l1 (by rw [es]; exact List.mem_cons_self), by omega, by omega⟩
  ·obtain ⟨-, e1⟩ := Prod.mk.inj e
   obtain ⟨-, e2⟩ := Prod.mk.inj e1
   obtain ⟨rfl, rfl⟩ := Prod.mk.inj e2
   exact ⟨one l1 (by rw [es]; exact List.mem_cons_self), by omega, by omega⟩
 ·split at e
  ·obtain ⟨-, e1⟩ := Prod.mk.inj e
   obtain ⟨-, e2⟩ := Prod.mk.inj e1
   obtain ⟨rfl, rfl⟩ := Prod.mk.inj e2
   exact ⟨zda, fun _ => rfl, by omega⟩
  ·split at e
   ·obtain ⟨-, e1⟩ := Prod.mk.inj e
    obtain ⟨-, e2⟩ := Prod.mk.inj e1
    obtain ⟨rfl, rfl⟩ := Prod.mk.inj e2
    exact ⟨zda, fun _ => rfl, by omega⟩
   ·obtain ⟨-, e1⟩ := Prod.mk.inj e
    obtain ⟨-, e2⟩ := Prod.mk.inj e1
    obtain ⟨rfl, rfl⟩ := Prod.mk.inj e2
    exact ⟨zda, fun _ => rfl, by omega⟩
theorem ziT (h : Fits p s) {i : Nat} (hi : i < s.chans.length) {y : ChnD} {l : List Int} (e : zbu (s.chans.getD i zy) = some (y, l)) : Told p s l := by
 unfold zbu at e
 split at e
 ·cases e
 ·obtain rfl := (Prod.mk.inj (Option.some.inj e)).2
  exact zhz h hi
theorem zfO (s : StD) (t : Int) (b : Bool) (i : Nat) : s.places.getD i 0 ≤ (za1 p s t b).places.getD i 0 := by
 unfold za1
 split
 ·exact (zaD [t] s i).1
 ·exact Int.le_refl _
theorem le8 {s1 s2 : StD} (h : Fits p s2) (h0 : ∀ i, 0 ≤ s.places.getD i 0) (h1 : ∀ i, s.places.getD i 0 ≤ s1.places.getD i 0) (h2 : ∀ i, s1.places.getD i 0 ≤ s2.places.getD i 0) : ∀ i, 0 ≤ s1.places.getD i 0 ∧ s1.places.getD i 0 ≤ 8 := fun i => by
 have := h.place_le i
 have := h0 i
 have := h1 i
 have := h2 i
 omega
theorem zhs : ∀ (l : List Int) (s : StD) (v : Int), sayIt (goAll p s l) v = goAll p (sayIt s v) l
 | [], _, _ => rfl
 | t :: l, s, v => zhs l (goOn p s t) v
theorem zkr {i : Nat} {t : Int} (h : (t, (i : Int)) ∈ owns s) : i < s.onces.length ∧ (s.onces.getD i zp).state = 1 ∧ (s.onces.getD i zp).owner = t := by
 obtain ⟨k, hk, hm⟩ := zcq.1 h
 unfold zas at hm
 split at hm
 ·next hs =>
  obtain ⟨e1, e2⟩ := Prod.mk.inj (xS1 hm)
  obtain rfl : i = k := by omega
  exact ⟨hk, hs, e1.symm⟩
 ·cases hm
theorem zjt {i : Nat} (hi : i < s.onces.length) {t : Int} (hn : t ∉ eT s) (ho : t ∉ oT s) : (s.onces.getD i zp).state = 1 → t ≠ (s.onces.getD i zp).owner ∧ t ∉ (s.onces.getD i zp).waits := fun h1 =>
 ⟨fun e => ho (List.mem_map.2 ⟨(t, (i : Int)), ziI hi (by unfold zas; rw [if_pos h1, e]; exact List.mem_singleton.2 rfl), rfl⟩), fun hm => hn (List.mem_map.2 ⟨(t, 4, (i : Int), 0), zdr hi (List.mem_map.2 ⟨t, hm, rfl⟩), rfl⟩)⟩
theorem zj0 {α : Type} (l : List α) (i : Nat) (d : α) : l.set i (l.getD i d) = l := by
 apply List.ext_getElem?
 intro k
 rw [List.getElem?_set]
 split
 ·next e =>
  subst e
  split
  ·next hi => rw [List.getD_eq_getElem?_getD, List.getElem?_eq_getElem hi]; rfl
  ·next hi => rw [List.getElem?_eq_none (by omega)]
 ·rfl
theorem zfy (s : StD) (i : Nat) : setOnce s (i : Int) (s.onces.getD i zp) = s := by
 unfold setOnce
 rw [show ((i : Nat) : Int).toNat = i from rfl, zj0]
def zbN (p : Pg) (ch : StD → List Int → Option Int) : Nat → StD → List Int → Option (StD × List Int)
 | 0, _, _ => none
 | n + 1, s, tr => match ch s tr with
  | none => some (s, tr)
  | some t => if t ∈ zT s then zbN p ch n (zI p s t) (tr ++ [t]) else none
theorem zhA {p : Pg} {ch : StD → List Int → Option Int} {n : Nat} {s : StD} {tr : List Int} (h : ch s tr = none) : zbN p ch (n + 1) s tr = some (s, tr) := by simp only [zbN, h]
theorem zgs {p : Pg} {ch : StD → List Int → Option Int} {n : Nat} {s : StD} {tr : List Int} {t : Int} (h : ch s tr = some t) (hr : t ∈ zT s) : zbN p ch (n + 1) s tr = zbN p ch n (zI p s t) (tr ++ [t]) := by simp only [zbN, h, if_pos hr]
theorem zjD {p : Pg} {ch : StD → List Int → Option Int} {n : Nat} {s : StD} {tr : List Int} {t : Int} (h : ch s tr = some t) (hr : t ∉ zT s) : zbN p ch (n + 1) s tr = none := by simp only [zbN, h, if_neg hr]
theorem zgu {P : Program} {o : Oper} {ρ : Operand → Value} {w : World} {post : Value → World → Prop} (s x : Operand) (t : TypeId)
  (ho : o.op = .call { callee := .builtin .append, args := #[s, x], argTypes := #[t, t] }) {B : Nat} {e : TypeId} {z : Value} {size bytes : Nat} (ht : P.underlying t = some (.slice e)) (hinfo : (P.info? e).map (fun i => (i.zero, i.size, i.bytes)) = some (some z, size, bytes))
  (hzs : z.cells.size = size) (hsz : 0 < size) {a : Option Addr} {n c : Nat} {xs : List Value} (hs : ρ s = .slice a n c) (hown : w.ownsRow B e size (.slice a n c) n xs)
  {a2 : Option Addr} {m c2 : Nat} {news : List Value} (hx : ρ x = .slice a2 m c2) (hl : news.length = m * size) (hsrc : Rd w a2 news) (h1 : ∀ u ∈ news, u.oneCell' = true) (hbytes : (n + m) * bytes ≤ 140737488355328) (hby : 0 < bytes) (hbase : B ≤ w.heap.size)
  (h : ∀ a' c' w', w'.ownsRow B e size (.slice a' (n + m) c') (n + m) (xs ++ news) → w.grownBy w' (zi a) → (∀ k, zi a' = some k → zi a = some k ∨ w.heap.size ≤ k) → post (.slice a' (n + m) c') w') : zcj P o ρ w post := by
 obtain ⟨a', c', w', hr, h2, h3, h4⟩ := zfr (P := P) (c2 := c2) t o.type ht hinfo hzs hsz hown hl hsrc h1 hbytes hby hbase
 refine zf (u := .slice a' (n + m) c') (w' := w') ?_ (h a' c' w' h2 h3 h4)
 unfold execOp
 simp only [ho, resolve, invoke, builtin, Sem.run_bind, Sem.run_pure, Result.andThen_ok, List.map_toArray, List.map_cons, List.map_nil, hs, hx, hr]
theorem StO.newer {X : List Nat} {B : Nat} {w w' : World} {v : StV} {L : StL} {s : StD} (h : StO [] B w v L s) (hb : Below w.heap.size w w') (hX : ∀ k ∈ X, w.heap.size ≤ k ∧ k < w'.heap.size) : StO X B w' v L s :=
 have g := h.below hb
 ⟨g.pl, g.npl, g.st, g.nst, g.se, g.nse, g.on, g.non, g.gr, g.ngr, g.ba, g.nba, g.ch, g.nch, g.sa, g.nsa, g.fl, g.dps, g.dpa, g.dsa, fun k hk => ⟨(hX k hk).2, fun hm => by have := (h.from k hm).2; have := (hX k hk).1; omega⟩,
  h.inn.wide (zm.of_below hb) fun b hm => by
   rcases xP1 hm with hm | hm
   ·exact .inr (hX b hm).1
   ·exact .inl hm⟩
theorem zi2 {l : List It} {k : Nat} {i' : It} : ∀ q ∈ zZ (l.set k i'), q ∈ zZ l ∨ q ∈ i'.foot := fun q hq => by
 obtain ⟨i, hi, hqi⟩ := List.mem_flatMap.1 hq
 rcases List.mem_or_eq_of_mem_set hi with hi | rfl
 ·exact .inl (List.mem_flatMap.2 ⟨i, hi, hqi⟩)
 ·exact .inr hqi
theorem Sf.appT {w W W' : World} {l : List It} {v : StV} {L : StL} {s : StD} (h : Sf w W l v L s) (k : Nat) {a a' : Option Addr} {n c n' c' sz : Nat} {E : TypeId} {cs cs' : List Value} (hi : l[k]? = some (.row a n c E sz cs)) (T : zm (zi a).toList W W') (h' : W'.ownsRow w.heap.size E sz (.slice a' n' c') n' cs') (hn : ∀ q, zi a' = some q → zi a = some q ∨ W.heap.size ≤ q) : Sf w W' (l.set k (.row a' n' c' E sz cs')) v L s := by
 have hX : ∀ q ∈ zZ (l.set k (.row a' n' c' E sz cs')), q ∈ zZ l ∨ W.heap.size ≤ q := fun q hq => by
  rcases zi2 q hq with h1 | h1
  ·exact .inl h1
  ·rcases hn q (by simpa [It.foot] using h1) with h2 | h2
   ·exact .inl (zfV hi q (by simp [It.foot, h2]))
   ·exact .inr h2
 have F := h.fr.step (i' := .row a' n' c' E sz cs') k hi T h' fun q hq => (hn q (by simpa [It.foot] using hq)).imp (fun h => by simp [It.foot, h]) id
 have hTT : zm (zZ l) W W' := T.mono (zfV hi)
 have g := h.st.other hTT
 refine ⟨F, g.pl, g.npl, g.st, g.nst, g.se, g.nse, g.on, g.non, g.gr, g.ngr, g.ba, g.nba, g.ch, g.nch, g.sa, g.nsa, g.fl, g.dps, g.dpa, g.dsa, fun q hq => ⟨(F.inside q hq).2, fun hm => ?_⟩, ?_⟩
 ·rcases hX q hq with h1 | h1
  ·exact (h.st.xs q h1).2 hm
  ·have := (h.st.from q hm).2; omega
 ·refine h.st.inn.wide (hTT.mono fun q hq => xQ1 (.inl hq)) fun b hb => ?_
  rcases xP1 hb with hb | hb
  ·exact (hX b hb).imp (fun h => xQ1 (.inl h)) id
  ·exact .inl (xQ1 (.inr hb))
theorem Sf.gainR {w W W' : World} {l : List It} {v : StV} {L : StL} {s : StD} {a : Option Addr} {n c sz : Nat} {E : TypeId} {cs : List Value} (F : Fr w W l) (hb : Below W.heap.size W W') (ho : W'.ownsRow W.heap.size E sz (.slice a n c) n cs) (hs : StO (zi a).toList W.heap.size W' v L s) (hn : NewB W.heap.size L) : Sf w W' (.row a n c E sz cs :: l) v L s := by
 have hB : ∀ k ∈ zZ l, k < W.heap.size := fun k hk => (F.inside k hk).2
 have hX : ∀ k ∈ zZ l, k < W'.heap.size ∧ k ∉ v.blks := fun k hk => ⟨Nat.lt_of_lt_of_le (hB k hk) hb.size, fun hm => by have := (hs.from k hm).1; have := hB k hk; omega⟩
 have hin : StIn (zZ l ++ ((zi a).toList ++ v.blks)) W' L s :=
  ⟨⟨hs.inn.se.e, fun x hx => (hs.inn.se.r x hx).aside (hn.se x hx) hB⟩, ⟨hs.inn.on.e, fun x hx => (hs.inn.on.r x hx).aside (hn.on x hx) hB⟩, ⟨hs.inn.gr.e, fun x hx => (hs.inn.gr.r x hx).aside (hn.gr x hx) hB⟩, ⟨hs.inn.ba.e, fun x hx => (hs.inn.ba.r x hx).aside (hn.ba x hx) hB⟩, ⟨hs.inn.ch.e, fun x hx => ⟨(hs.inn.ch.r x hx).1.aside (hn.ch x hx).1 hB, (hs.inn.ch.r x hx).2.1.aside (hn.ch x hx).2.1 hB, (hs.inn.ch.r x hx).2.2.aside (hn.ch x hx).2.2 hB⟩⟩⟩
 refine ⟨F.row hb ho, (StO.lower ⟨hs.pl, hs.npl, hs.st, hs.nst, hs.se, hs.nse, hs.on, hs.non, hs.gr, hs.ngr, hs.ba, hs.nba, hs.ch, hs.nch, hs.sa, hs.nsa, hs.fl, hs.dps, hs.dpa, hs.dsa, fun k hk => ?_, ?_⟩ F.bel.size)⟩
 ·rcases xP1 (show k ∈ (zi a).toList ++ zZ l from hk) with h1 | h1
  ·exact hs.xs k h1
  ·exact hX k h1
 ·exact hin.map fun x cs k hx => hx.wide (zm.refl _ _) fun b hm => by
   left
   rcases xP1 hm with h1 | h1
   ·rcases xP1 (show b ∈ (zi a).toList ++ zZ l from h1) with h2 | h2
    ·exact xQ1 (.inr (xQ1 (.inl h2)))
    ·exact xQ1 (.inl h2)
   ·exact xQ1 (.inr (xQ1 (.inr h1)))
theorem Sf.set10 {w W : World} {l : List It} {v : StV} {L : StL} {s : StD} (h : Sf w W l v L s) (k : Nat) {b : Nat} {u0 u1 u2 u3 u4 u5 u6 u7 u8 u9 : Value} {T : TypeId} (hi : l[k]? = some (.blk b #[u0, u1, u2, u3, u4, u5, u6, u7, u8, u9] T)) (v0 v1 v2 v3 v4 v5 v6 v7 v8 v9 : Value) : Sf w ((((((((((W.setCell ⟨b, 0, none⟩ v0).setCell ⟨b, 1, none⟩ v1).setCell ⟨b, 2, none⟩ v2).setCell ⟨b, 3, none⟩ v3).setCell ⟨b, 4, none⟩ v4).setCell ⟨b, 5, none⟩ v5).setCell ⟨b, 6, none⟩ v6).setCell ⟨b, 7, none⟩ v7).setCell ⟨b, 8, none⟩ v8).setCell ⟨b, 9, none⟩ v9) (l.set k (.blk b #[v0, v1, v2, v3, v4, v5, v6, v7, v8, v9] T)) v L s := by
 have hh := h.fr.has _ (List.mem_of_getElem? hi)
 exact h.step k hi (((((((((((zm.refl _ _).set (List.mem_singleton.2 rfl)).set (List.mem_singleton.2 rfl)).set (List.mem_singleton.2 rfl)).set (List.mem_singleton.2 rfl)).set (List.mem_singleton.2 rfl)).set (List.mem_singleton.2 rfl)).set (List.mem_singleton.2 rfl)).set (List.mem_singleton.2 rfl)).set (List.mem_singleton.2 rfl)).set (List.mem_singleton.2 rfl)) ⟨hh.1, by have h9 := ((((((((((hh.2.set 0 v0).set 1 v1).set 2 v2).set 3 v3).set 4 v4).set 5 v5).set 6 v6).set 7 v7).set 8 v8).set 9 v9); simpa using h9⟩ rfl
theorem Fr.c10 {w W : World} {l : List It} (F : Fr w W l) (k : Nat) {b : Nat} {v0 v1 v2 v3 v4 v5 v6 v7 v8 v9 : Value} {T : TypeId} (hi : l[k]? = some (.blk b #[v0, v1, v2, v3, v4, v5, v6, v7, v8, v9] T)) : W.cell? ⟨b, 0, none⟩ = some v0 ∧ W.frozen? ⟨b, 0, none⟩ = false ∧ W.cell? ⟨b, 1, none⟩ = some v1 ∧ W.frozen? ⟨b, 1, none⟩ = false ∧ W.cell? ⟨b, 2, none⟩ = some v2 ∧ W.frozen? ⟨b, 2, none⟩ = false ∧ W.cell? ⟨b, 3, none⟩ = some v3 ∧ W.frozen? ⟨b, 3, none⟩ = false ∧ W.cell? ⟨b, 4, none⟩ = some v4 ∧ W.frozen? ⟨b, 4, none⟩ = false ∧ W.cell? ⟨b, 5, none⟩ = some v5 ∧ W.frozen? ⟨b, 5, none⟩ = false ∧ W.cell? ⟨b, 6, none⟩ = some v6 ∧ W.frozen? ⟨b, 6, none⟩ = false ∧ W.cell? ⟨b, 7, none⟩ = some v7 ∧ W.frozen? ⟨b, 7, none⟩ = false ∧ W.cell? ⟨b, 8, none⟩ = some v8 ∧ W.frozen? ⟨b, 8, none⟩ = false ∧ W.cell? ⟨b, 9, none⟩ = some v9 ∧ W.frozen? ⟨b, 9, none⟩ = false := ⟨F.cell k 0 hi rfl, F.fz k 0 hi, F.cell k 1 hi rfl, F.fz k 1 hi, F.cell k 2 hi rfl, F.fz k 2 hi, F.cell k 3 hi rfl, F.fz k 3 hi, F.cell k 4 hi rfl, F.fz k 4 hi, F.cell k 5 hi rfl, F.fz k 5 hi, F.cell k 6 hi rfl, F.fz k 6 hi, F.cell k 7 hi rfl, F.fz k 7 hi, F.cell k 8 hi rfl, F.fz k 8 hi, F.cell k 9 hi rfl, F.fz k 9 hi⟩
theorem zhy {α β : Type} {f : α → β} : ∀ {l : List α}, (l.map f).Nodup → ∀ {a b : α}, a ∈ l → b ∈ l → f a = f b → a = b
 | [], _, _, _, ha, _, _ => by cases ha
 | x :: l, h, a, b, ha, hb, e => by
  rw [List.map_cons, List.nodup_cons] at h
  rcases List.mem_cons.1 ha with rfl | ha
  ·rcases List.mem_cons.1 hb with hb | hb
   ·exact hb.symm
   ·exact absurd (List.mem_map.2 ⟨b, hb, e.symm⟩) h.1
  ·rcases List.mem_cons.1 hb with hb | hb
   ·exact absurd (List.mem_map.2 ⟨a, ha, e.trans (congrArg f hb)⟩) h.1
   ·exact zhy h.2 ha hb e
variable {p : Pg} {s : StD}
structure At (p : Pg) (s : StD) (u : Int) : Prop where
 rg : 0 ≤ u ∧ u < p.threads.length ∧ u < s.places.length
 ge : 0 ≤ s.places.getD u.toNat 0
 lt : s.places.getD u.toNat 0 < (zb3 p u).length
theorem Turn.at (h : Fits p s) {t : Int} (ht : Turn p s t) : At p s t := ⟨by have := ht.rg; have := h.np; omega, ht.ge, ht.lt⟩
theorem Fits.atE (h : Fits p s) {u : Int} (hu : u ∈ eT s) : At p s u := by
 obtain ⟨h1, h2, -⟩ := h.waits hu
 exact ⟨by have := h.np; omega, (h.place_le u.toNat).1, h2⟩
def sumZ (f : Int → Int) : List Int → Int
 | [] => 0
 | z :: l => f z + sumZ f l
theorem Fits.entry (h : Fits p s) {e : Ent} (he : e ∈ ents s) : want (opAt p s e.1) e.1 = e := by
 have hm : e.1 ∈ eT s := List.mem_map.2 ⟨e, he, rfl⟩
 have hr := h.we e he
 obtain ⟨u, hu⟩ : ∃ u : Nat, e.1 = u := ⟨e.1.toNat, by omega⟩
 have ht := h.th u (by omega)
 unfold thOk at ht
 rw [← hu] at ht
 rcases ht.2.2 with h1 | ⟨-, h1 | h1 | h1⟩
 ·exact absurd hm h1.2.2.1
 ·exact absurd hm h1.2.1
 ·exact zhy h.ne h1.2.1 he rfl
 ·exact absurd hm h1.2.1
structure Move (p : Pg) (s : StD) (l : List Int) (s' : StD) : Prop where
 nd : l.Nodup
 ok : ∀ z ∈ l, At p s z
 pl : s'.places = (goAll p s l).places
theorem zgh : ∀ (l : List Int) {s s' : StD}, s'.places = s.places → (goAll p s' l).places = (goAll p s l).places
 | [], _, _, e => e
 | u :: l, s, s', e => zgh l (s := goOn p s u) (s' := goOn p s' u) (by unfold goOn; dsimp only; rw [e])
theorem Move.none {s' : StD} (e : s'.places = s.places) : Move p s [] s' := ⟨by simp, by simp, e⟩
theorem Move.one (h : Fits p s) {t : Int} (ht : Turn p s t) {s1 : StD} (e : s1.places = s.places) : Move p s [t] (goOn p s1 t) :=
 ⟨by simp, fun z hz => by obtain rfl := xS1 hz; exact ht.at h, zgh [t] e⟩
theorem Move.told (h : Fits p s) {t : Int} (ht : Turn p s t) {E : List Ent} (hE : ∀ e ∈ E, e ∈ ents s) (hn : (E.map (·.1)).Nodup) {s1 : StD} (e : s1.places = s.places) : Move p s (E.map (·.1) ++ [t]) (goAll p s1 (E.map (·.1) ++ [t])) := by
 have hm : ∀ z ∈ E.map (·.1), z ∈ eT s := fun z hz => by
  obtain ⟨e, he, rfl⟩ := List.mem_map.1 hz
  exact List.mem_map.2 ⟨e, hE e he, rfl⟩
 refine ⟨?_, fun z hz => ?_, zgh _ e⟩
 ·rw [List.nodup_append]
  refine ⟨hn, by simp, fun a ha b hb e => ?_⟩
  obtain rfl := xS1 hb
  subst e
  exact ht.ne (hm a ha)
 ·rcases xP1 hz with hz | hz
  ·exact h.atE (hm z hz)
  ·obtain rfl := xS1 hz
   exact ht.at h
theorem zfH {o : OpD} {t : Int} {e : Ent} (h : want o t = e) : o.kind = e.2.1 ∧ o.on = e.2.2.1 := by subst h; exact ⟨rfl, rfl⟩
variable {p : Pg} {s : StD} {t : Int}
structure Ends (p : Pg) (s s1 : StD) (l : List Int) (s' : StD) : Prop where
 mv : Move p s l s'
 se : s'.sems = s1.sems
 on : s'.onces = s1.onces
 gr : s'.groups = s1.groups
 ba : s'.bars = s1.bars
 ch : s'.chans = s1.chans
 sa : s'.said = s1.said
theorem Ends.go {s1 : StD} {l : List Int} (h : Move p s l (goAll p s1 l)) : Ends p s s1 l (goAll p s1 l) :=
 ⟨h, zdp l s1, zcA l s1, zcL l s1, zaQ l s1, zc2 l s1, zaP l s1⟩
theorem Ends.stat {s1 : StD} (e : s1.places = s.places) (t v : Int) : Ends p s s1 [] (zab s1 t v) := ⟨Move.none e, rfl, rfl, rfl, rfl, rfl, rfl⟩
theorem Ends.fault (f : Int) : Ends p s s [] (zbl s f) := ⟨Move.none rfl, rfl, rfl, rfl, rfl, rfl, rfl⟩
def zap (p : Pg) (s : StD) (t : Int) (k : Int) (l : List Int) : Prop := ∀ z ∈ l, z = t ∨ ((opAt p s z).kind = k ∧ (opAt p s z).on = (opAt p s t).on)
theorem zap.nil (k : Int) : zap p s t k [] := fun _ h => by cases h
theorem zap.one (k : Int) : zap p s t k [t] := fun _ h => .inl (xS1 h)
theorem zap.of (h : Fits p s) {E : List Ent} {k : Int} {i : Nat} (hi : (opAt p s t).on = i) (hE : ∀ e ∈ E, e ∈ ents s ∧ e.2.1 = k ∧ e.2.2.1 = i) : zap p s t k (E.map (·.1) ++ [t]) := fun z hz => by
 rcases xP1 hz with hz | hz
 ·obtain ⟨e, he, rfl⟩ := List.mem_map.1 hz
  obtain ⟨h1, h2, h3⟩ := hE e he
  obtain ⟨k1, k2⟩ := zfH (h.entry h1)
  exact .inr ⟨k1.trans h2, k2.trans (h3.trans hi.symm)⟩
 ·exact .inl (xS1 hz)
theorem zkk (hk : (opAt p s t).kind = 2) : zI p s t = doSem p s t (opAt p s t) := by unfold zI; rw [if_neg (by omega), if_pos hk]
theorem zke (hk : (opAt p s t).kind = 3) : zI p s t = doRel p s t (opAt p s t) := by unfold zI; rw [if_neg (by omega), if_neg (by omega), if_pos hk]
theorem zkh (hk : (opAt p s t).kind = 4) : zI p s t = doOnce p s t (opAt p s t) := by unfold zI; rw [if_neg (by omega), if_neg (by omega), if_neg (by omega), if_pos hk]
theorem zj6 (hk : (opAt p s t).kind = 5) : zI p s t = doAdd p s t (opAt p s t) := by unfold zI; rw [if_neg (by omega), if_neg (by omega), if_neg (by omega), if_neg (by omega), if_pos hk]
theorem zkb (hk : (opAt p s t).kind = 6) : zI p s t = doWait p s t (opAt p s t) := by unfold zI; rw [if_neg (by omega), if_neg (by omega), if_neg (by omega), if_neg (by omega), if_neg (by omega), if_pos hk]
theorem zkf (hk : (opAt p s t).kind = 7) : zI p s t = doCome p s t (opAt p s t) := by unfold zI; rw [if_neg (by omega), if_neg (by omega), if_neg (by omega), if_neg (by omega), if_neg (by omega), if_neg (by omega), if_pos hk]
theorem zkd (hk : (opAt p s t).kind = 8) : zI p s t = doSend p s t (opAt p s t) := by unfold zI; rw [if_neg (by omega), if_neg (by omega), if_neg (by omega), if_neg (by omega), if_neg (by omega), if_neg (by omega), if_neg (by omega), if_pos hk]
theorem zj9 (hk : (opAt p s t).kind = 9) : zI p s t = doGet p s t (opAt p s t) := by unfold zI; rw [if_neg (by omega), if_neg (by omega), if_neg (by omega), if_neg (by omega), if_neg (by omega), if_neg (by omega), if_neg (by omega), if_neg (by omega), if_pos hk]
theorem zjC (hk : (opAt p s t).kind = 10) : zI p s t = doClose p s t (opAt p s t) := by unfold zI; rw [if_neg (by omega), if_neg (by omega), if_neg (by omega), if_neg (by omega), if_neg (by omega), if_neg (by omega), if_neg (by omega), if_neg (by omega), if_neg (by omega)]
theorem zgM (h : Fits p s) (ht : Turn p s t) : ∃ i : Nat, (opAt p s t).on = i ∧ i < zv p (opAt p s t).kind := by
 obtain ⟨h0, h1⟩ := zbO (h.opv ht)
 exact ⟨(opAt p s t).on.toNat, by omega, by omega⟩
theorem zjh (h : Fits p s) (ht : Turn p s t) (hk : (opAt p s t).kind = 2 ∨ (opAt p s t).kind = 3) : ∃ i : Nat, (opAt p s t).on = i ∧ i < s.sems.length := by
 obtain ⟨i, e, hi⟩ := zgM h ht
 rw [show zv p (opAt p s t).kind = p.sems.length by unfold zv; rw [if_neg (by omega), if_pos hk]] at hi
 exact ⟨i, e, by rw [h.nse]; exact hi⟩
theorem zka (h : Fits p s) (ht : Turn p s t) (hk : (opAt p s t).kind = 4) : ∃ i : Nat, (opAt p s t).on = i ∧ i < s.onces.length := by
 obtain ⟨i, e, hi⟩ := zgM h ht
 rw [show zv p (opAt p s t).kind = 3 by unfold zv; rw [if_neg (by omega), if_neg (by omega), if_pos hk]] at hi
 exact ⟨i, e, by rw [h.non]; exact hi⟩
theorem zji (h : Fits p s) (ht : Turn p s t) (hk : (opAt p s t).kind = 5 ∨ (opAt p s t).kind = 6) : ∃ i : Nat, (opAt p s t).on = i ∧ i < s.groups.length := by
 obtain ⟨i, e, hi⟩ := zgM h ht
 rw [show zv p (opAt p s t).kind = p.groups.length by unfold zv; rw [if_neg (by omega), if_neg (by omega), if_neg (by omega), if_pos hk]] at hi
 exact ⟨i, e, by rw [h.ngr]; exact hi⟩
theorem zkn (h : Fits p s) (ht : Turn p s t) (hk : (opAt p s t).kind = 7) : ∃ i : Nat, (opAt p s t).on = i ∧ i < s.bars.length := by
 obtain ⟨i, e, hi⟩ := zgM h ht
 rw [show zv p (opAt p s t).kind = p.barriers.length by unfold zv; rw [if_neg (by omega), if_neg (by omega), if_neg (by omega), if_neg (by omega), if_pos hk]] at hi
 exact ⟨i, e, by rw [h.nba]; exact hi⟩
theorem zh8 (h : Fits p s) (ht : Turn p s t) (hk : 8 ≤ (opAt p s t).kind) : ∃ i : Nat, (opAt p s t).on = i ∧ i < s.chans.length := by
 obtain ⟨i, e, hi⟩ := zgM h ht
 rw [show zv p (opAt p s t).kind = p.rooms.length by unfold zv; rw [if_neg (by omega), if_neg (by omega), if_neg (by omega), if_neg (by omega), if_neg (by omega)]] at hi
 exact ⟨i, e, by rw [h.nch]; exact hi⟩
theorem zcb (i : Nat) : ((i : Nat) : Int).toNat = i := rfl
theorem zkz (h : Fits p s) (ht : Turn p s t) (hk : (opAt p s t).kind = 1) : Ends p s (sayIt s (opAt p s t).arg) [t] (zI p s t) := by
 unfold zI
 rw [if_pos hk]
 exact Ends.go (s1 := sayIt s (opAt p s t).arg) (l := [t]) (Move.one h ht rfl)
theorem zkH (h : Fits p s) (ht : Turn p s t) (hk : (opAt p s t).kind = 2) : ∃ (i : Nat) (y : SemD) (b : Bool), (opAt p s t).on = i ∧ i < s.sems.length ∧ y.limit = (s.sems.getD i zE).limit ∧ y.free = (s.sems.getD i zE).free - (if b = true then (opAt p s t).arg else 0) ∧ Ends p s (setSem s i y) (if b = true then [t] else []) (zI p s t) := by
 obtain ⟨i, e, hi⟩ := zjh h ht (.inl hk)
 rw [zkk hk]
 unfold doSem
 rw [e, zcb]
 obtain ⟨x, hx⟩ : ∃ x, x = s.sems.getD i zE := ⟨_, rfl⟩
 rw [← hx]
 unfold zbr
 split
 ·exact ⟨i, ⟨x.free - (opAt p s t).arg, x.limit, x.queue⟩, true, rfl, hi, by rw [← hx], by rw [← hx, if_pos rfl], Ends.go (s1 := setSem s i ⟨x.free - (opAt p s t).arg, x.limit, x.queue⟩) (l := [t]) (Move.one h ht rfl)⟩
 ·exact ⟨i, ⟨x.free, x.limit, x.queue ++ [(t, (opAt p s t).arg)]⟩, false, rfl, hi, by rw [← hx], by rw [← hx]; simp, Ends.stat (s := s) (s1 := setSem s i ⟨x.free, x.limit, x.queue ++ [(t, (opAt p s t).arg)]⟩) rfl t 1⟩
theorem zhV : ∀ (q : List (Int × Int)) (f : Int), ∃ P N, q = P ++ N ∧ zag f q = (f - (P.map (·.2)).sum, P.map (·.1), N)
 | [], f => ⟨[], [], rfl, by simp [zag]⟩
 | w :: q, f => by
  by_cases hw : w.2 ≤ f
  ·obtain ⟨P, N, e1, e2⟩ := zhV q (f - w.2)
   refine ⟨w :: P, N, by rw [e1]; rfl, ?_⟩
   rw [zag, if_pos hw, e2]
   simp only [List.map_cons, List.sum_cons, Prod.mk.injEq, and_true]
   omega
  ·exact ⟨[], w :: q, rfl, by rw [zag, if_neg hw]; simp⟩
theorem zkx (h : Fits p s) (ht : Turn p s t) (hk : (opAt p s t).kind = 3) : ∃ i : Nat, (opAt p s t).on = i ∧ i < s.sems.length ∧
  (((s.sems.getD i zE).limit - (s.sems.getD i zE).free < (opAt p s t).arg ∧ zI p s t = zbl s 1) ∨
  ∃ (y : SemD) (P : List (Int × Int)), y.limit = (s.sems.getD i zE).limit ∧ y.free = (s.sems.getD i zE).free + (opAt p s t).arg - (P.map (·.2)).sum ∧ (∀ z ∈ P, (z.1, 2, (i : Int), z.2) ∈ ents s) ∧ zI p s t = goAll p (setSem s i y) (P.map (·.1) ++ [t]) ∧ Ends p s (setSem s i y) (P.map (·.1) ++ [t]) (zI p s t)) := by
 obtain ⟨i, e, hi⟩ := zjh h ht (.inr hk)
 refine ⟨i, e, hi, ?_⟩
 rw [zke hk]
 unfold doRel
 rw [e, zcb]
 unfold zbX
 by_cases hf : (opAt p s t).arg ≤ (s.sems.getD i zE).limit - (s.sems.getD i zE).free
 ·right
  rw [if_pos hf]
  obtain ⟨P, N, e1, e2⟩ := zhV (s.sems.getD i zE).queue ((s.sems.getD i zE).free + (opAt p s t).arg)
  rw [e2]
  have hin : ∀ z ∈ P, (z.1, 2, (i : Int), z.2) ∈ ents s := fun z hz => zdM hi (List.mem_map.2 ⟨z, by rw [e1]; exact xQ1 (.inl hz), rfl⟩)
  have hnd : (P.map (·.1)).Nodup := by
   have := (h.se i hi).1.2.2.2.1.2.2
   rw [e1, List.map_append, List.nodup_append] at this
   exact this.1
  have hm := Move.told h ht (E := P.map fun z => ((z.1, 2, (i : Int), z.2) : Ent)) (fun e he => by obtain ⟨z, hz, rfl⟩ := List.mem_map.1 he; exact hin z hz) (by rw [List.map_map]; exact hnd) (s1 := setSem s i ⟨(s.sems.getD i zE).free + (opAt p s t).arg - (P.map (·.2)).sum, (s.sems.getD i zE).limit, N⟩) rfl
  have hmf : (P.map fun z => ((z.1, 2, (i : Int), z.2) : Ent)).map (·.1) = P.map (·.1) := by rw [List.map_map]; rfl
  rw [hmf] at hm
  exact ⟨⟨(s.sems.getD i zE).free + (opAt p s t).arg - (P.map (·.2)).sum, (s.sems.getD i zE).limit, N⟩, P, rfl, rfl, hin, rfl, Ends.go hm⟩
 ·left
  rw [if_neg hf]
  exact ⟨by omega, rfl⟩
theorem zkJ (h : Fits p s) (ht : Turn p s t) (hk : (opAt p s t).kind = 4) : ∃ (i : Nat) (y : zaE) (l : List Int), (opAt p s t).on = i ∧ i < s.onces.length ∧ zap p s t 4 l ∧ Ends p s (setOnce s i y) l (zI p s t) := by
 obtain ⟨i, e, hi⟩ := zka h ht hk
 rw [zkh hk]
 unfold doOnce
 rw [e, zcb]
 split
 ·have hin : ∀ u ∈ (s.onces.getD i zp).waits, ((u, 4, (i : Int), 0) : Ent) ∈ ents s := fun u hu => zdr hi (List.mem_map.2 ⟨u, hu, rfl⟩)
  have hnd : (s.onces.getD i zp).waits.Nodup := by
   rcases h.on i hi with h1 | h1 | h1
   ·rw [h1.2.2.2]; simp
   ·exact h1.2.2.2.1.2.2
   ·rw [h1.2.2.2]; simp
  have hE : ∀ x ∈ (s.onces.getD i zp).waits.map fun u => ((u, 4, (i : Int), 0) : Ent), x ∈ ents s ∧ x.2.1 = 4 ∧ x.2.2.1 = i := fun x hx => by
   obtain ⟨u, hu, rfl⟩ := List.mem_map.1 hx
   exact ⟨hin u hu, rfl, rfl⟩
  have hm := Move.told h ht (fun x hx => (hE x hx).1) (by rw [zbj]; exact hnd) (s1 := setOnce s i (zcT t (opAt p s t).arg)) rfl
  have hM := zap.of (t := t) h e hE
  rw [zbj] at hm hM
  exact ⟨i, _, _, rfl, hi, hM, Ends.go hm⟩
 ·split
  ·exact ⟨i, za4 (s.onces.getD i zp) t, [], rfl, hi, zap.nil _, Ends.stat (s := s) (s1 := setOnce s i (za4 (s.onces.getD i zp) t)) rfl t 2⟩
  ·split
   ·exact ⟨i, za4 (s.onces.getD i zp) t, [], rfl, hi, zap.nil _, Ends.stat (s := s) (s1 := setOnce s i (za4 (s.onces.getD i zp) t)) rfl t 1⟩
   ·refine ⟨i, s.onces.getD i zp, [t], rfl, hi, zap.one _, ?_⟩
    rw [zfy]
    exact Ends.go (s1 := s) (l := [t]) (Move.one h ht rfl)
theorem zkE (h : Fits p s) (ht : Turn p s t) (hk : (opAt p s t).kind = 5) : ∃ i : Nat, (opAt p s t).on = i ∧ i < s.groups.length ∧
  (zI p s t = zbl s 2 ∨ ∃ (y : GrpD) (l : List Int), y.count = (s.groups.getD i zK).count + (opAt p s t).arg ∧ zap p s t 6 (l ++ [t]) ∧ Ends p s (setGrp s i y) (l ++ [t]) (zI p s t)) := by
 obtain ⟨i, e, hi⟩ := zji h ht (.inl hk)
 refine ⟨i, e, hi, ?_⟩
 rw [zj6 hk]
 unfold doAdd
 rw [e, zcb]
 obtain ⟨x, hx⟩ : ∃ x, x = s.groups.getD i zK := ⟨_, rfl⟩
 have hE : ∀ q ∈ x.waits.map fun u => ((u, 6, (i : Int), 0) : Ent), q ∈ ents s ∧ q.2.1 = 6 ∧ q.2.2.1 = i := fun q hq => by
  obtain ⟨u, hu, rfl⟩ := List.mem_map.1 hq
  exact ⟨zdI hi (List.mem_map.2 ⟨u, by rw [← hx]; exact hu, rfl⟩), rfl, rfl⟩
 have hnd : x.waits.Nodup := by rw [hx]; exact (h.gr i hi).2.1.2.2
 rw [← hx]
 unfold zbE
 by_cases hr : 0 ≤ x.count + (opAt p s t).arg ∧ x.count + (opAt p s t).arg ≤ 99
 ·rw [if_pos hr]
  right
  by_cases hz : x.count + (opAt p s t).arg = 0
  ·rw [if_pos hz]
   have hm := Move.told h ht (fun x hx => (hE x hx).1) (by rw [zbj]; exact hnd) (s1 := setGrp s i ⟨0, []⟩) rfl
   have hM := zap.of (t := t) h e hE
   rw [zbj] at hm hM
   exact ⟨⟨0, []⟩, x.waits, hz.symm, hM, Ends.go hm⟩
  ·rw [if_neg hz]
   exact ⟨⟨x.count + (opAt p s t).arg, x.waits⟩, [], rfl, zap.one _, Ends.go (s1 := setGrp s i ⟨x.count + (opAt p s t).arg, x.waits⟩) (l := [t]) (Move.one h ht rfl)⟩
 ·rw [if_neg hr]
  exact .inl rfl
theorem zkI (h : Fits p s) (ht : Turn p s t) (hk : (opAt p s t).kind = 6) : ∃ (i : Nat) (y : GrpD) (l : List Int), (opAt p s t).on = i ∧ i < s.groups.length ∧ y.count = (s.groups.getD i zK).count ∧ zap p s t 6 l ∧ Ends p s (setGrp s i y) l (zI p s t) := by
 obtain ⟨i, e, hi⟩ := zji h ht (.inr hk)
 rw [zkb hk]
 unfold doWait
 rw [e, zcb]
 obtain ⟨x, hx⟩ : ∃ x, x = s.groups.getD i zK := ⟨_, rfl⟩
 rw [← hx]
 unfold zbf
 split
 ·exact ⟨i, x, [t], rfl, hi, by rw [hx], zap.one _, Ends.go (s1 := setGrp s i x) (l := [t]) (Move.one h ht rfl)⟩
 ·exact ⟨i, ⟨x.count, x.waits ++ [t]⟩, [], rfl, hi, by rw [hx], zap.nil _, Ends.stat (s := s) (s1 := setGrp s i ⟨x.count, x.waits ++ [t]⟩) rfl t 1⟩
theorem zkB (h : Fits p s) (ht : Turn p s t) (hk : (opAt p s t).kind = 7) : ∃ (i : Nat) (y : BarD) (l : List Int), (opAt p s t).on = i ∧ i < s.bars.length ∧ y.parties = (s.bars.getD i zx).parties ∧ zap p s t 7 l ∧ Ends p s (setBar s i y) l (zI p s t) ∧ ((l = [] ∧ y.round = (s.bars.getD i zx).round) ∨ ((l.length : Int) = y.parties ∧ y.round = (s.bars.getD i zx).round + 1)) := by
 obtain ⟨i, e, hi⟩ := zkn h ht hk
 rw [zkf hk]
 unfold doCome
 rw [e, zcb]
 have hok := (h.ba i hi).1
 unfold zaN
 by_cases hl : ((s.bars.getD i zx).waits.length : Int) + 1 < (s.bars.getD i zx).parties
 ·rw [if_pos hl]
  dsimp only
  rw [if_pos rfl]
  exact ⟨i, ⟨(s.bars.getD i zx).parties, (s.bars.getD i zx).round, (s.bars.getD i zx).waits ++ [t]⟩, [], rfl, hi, rfl, zap.nil _, Ends.stat (s := s) (s1 := setBar s i ⟨(s.bars.getD i zx).parties, (s.bars.getD i zx).round, (s.bars.getD i zx).waits ++ [t]⟩) rfl t 1, .inl ⟨rfl, rfl⟩⟩
 ·rw [if_neg hl]
  have hne : (s.bars.getD i zx).waits ++ [t] ≠ [] := by simp
  have hE : ∀ x ∈ (s.bars.getD i zx).waits.map fun u => ((u, 7, (i : Int), 0) : Ent), x ∈ ents s ∧ x.2.1 = 7 ∧ x.2.2.1 = i := fun x hx => by
   obtain ⟨u, hu, rfl⟩ := List.mem_map.1 hx
   exact ⟨zdO hi (List.mem_map.2 ⟨u, hu, rfl⟩), rfl, rfl⟩
  have hm := Move.told h ht (fun x hx => (hE x hx).1) (by rw [zbj]; exact hok.2.2.1.2.2) (s1 := setBar s i ⟨(s.bars.getD i zx).parties, (s.bars.getD i zx).round + 1, []⟩) rfl
  have hM := zap.of (t := t) h e hE
  rw [zbj] at hm hM
  dsimp only
  rw [if_neg hne]
  refine ⟨i, ⟨(s.bars.getD i zx).parties, (s.bars.getD i zx).round + 1, []⟩, _, rfl, hi, rfl, hM, Ends.go hm, .inr ⟨?_, rfl⟩⟩
  rw [List.length_append]
  have := hok.2.2.2
  show (((s.bars.getD i zx).waits.length + 1 : Nat) : Int) = (s.bars.getD i zx).parties
  omega
def gChn (i : Nat) (o : OpD) : Int := if o.on = i then (if o.kind = 8 then 1 else if o.kind = 9 then -1 else 0) else 0
theorem zgv {i : Nat} {o : OpD} (h : o.on = i) (hk : o.kind = 8) : gChn i o = 1 := by unfold gChn; rw [if_pos h, if_pos hk]
theorem zfz {i : Nat} {o : OpD} (h : o.on = i) (hk : o.kind = 9) : gChn i o = -1 := by unfold gChn; rw [if_pos h, if_neg (by omega), if_pos hk]
theorem zko {i : Nat} {o : OpD} (hk : o.kind ≠ 8 ∧ o.kind ≠ 9) : gChn i o = 0 := by
 unfold gChn
 split
 ·rw [if_neg hk.1, if_neg hk.2]
 ·rfl
def vals (x : ChnD) : List Int := x.items ++ x.senders.map (·.2)
theorem zj4 (h : Fits p s) (ht : Turn p s t) (hk : (opAt p s t).kind = 8) : ∃ i : Nat, (opAt p s t).on = i ∧ i < s.chans.length ∧
  (zI p s t = zbl s 3 ∨ ∃ (y : ChnD) (s1 : StD) (l : List Int), s1.chans = s.chans.set i y ∧ s1.sems = s.sems ∧ s1.onces = s.onces ∧ s1.groups = s.groups ∧ s1.bars = s.bars ∧ zap p s t 9 l ∧ Ends p s s1 l (zI p s t) ∧ y.closed = (s.chans.getD i zy).closed ∧
   (y.items.length : Int) = (s.chans.getD i zy).items.length + sumZ (fun z => gChn i (opAt p s z)) l ∧ (∀ v ∈ vals y, v ∈ vals (s.chans.getD i zy) ∨ v = (opAt p s t).arg) ∧ (∀ v ∈ s1.said, v ∈ s.said ∨ v = (opAt p s t).arg)) := by
 obtain ⟨i, e, hi⟩ := zh8 h ht (by omega)
 refine ⟨i, e, hi, ?_⟩
 rw [zkd hk]
 unfold doSend
 rw [e, zcb]
 obtain ⟨x, hx⟩ : ∃ x, x = s.chans.getD i zy := ⟨_, rfl⟩
 have hin : ∀ u ∈ (s.chans.getD i zy).getters, ((u, 9, (i : Int), 0) : Ent) ∈ ents s := fun u hu => zbA hi (xQ1 (.inr (List.mem_map.2 ⟨u, hu, rfl⟩)))
 rw [← hx] at hin ⊢
 unfold zaY
 by_cases hc : x.closed = true
 ·rw [if_pos hc]
  exact .inl rfl
 right
 rw [if_neg hc]
 cases hg : x.getters with
 | cons g gs =>
  have hE : ∀ q ∈ [((g, 9, (i : Int), 0) : Ent)], q ∈ ents s ∧ q.2.1 = 9 ∧ q.2.2.1 = i := fun q hq => by
   obtain rfl := xS1 hq
   exact ⟨hin g (by rw [hg]; simp), rfl, rfl⟩
  have hm := Move.told h ht (fun q hq => (hE q hq).1) (by simp) (s1 := sayIt (setChn s i ⟨x.room, x.items, x.senders, gs, x.closed⟩) (opAt p s t).arg) rfl
  have hM := zap.of (t := t) h e hE
  obtain ⟨k1, k2⟩ := zfH (h.entry (hE (g, 9, (i : Int), 0) (by simp)).1)
  dsimp only
  rw [if_neg (by simp)]
  refine ⟨⟨x.room, x.items, x.senders, gs, x.closed⟩, sayIt (setChn s i ⟨x.room, x.items, x.senders, gs, x.closed⟩) (opAt p s t).arg, [g, t], rfl, rfl, rfl, rfl, rfl, hM, ?_, rfl, ?_, fun v hv => .inl hv, fun v hv => ?_⟩
  ·exact Ends.go hm
  ·show (x.items.length : Int) = x.items.length + (gChn i (opAt p s g) + (gChn i (opAt p s t) + 0))
   rw [zgv e hk, zfz k2 k1]
   omega
  ·rcases xP1 hv with hv | hv
   ·exact .inl hv
   ·exact .inr (xS1 hv)
 | nil =>
  dsimp only
  by_cases hr : (x.items.length : Int) < x.room
  ·rw [if_pos hr]
   dsimp only
   rw [if_pos rfl]
   refine ⟨⟨x.room, x.items ++ [(opAt p s t).arg], x.senders, [], x.closed⟩, setChn s i ⟨x.room, x.items ++ [(opAt p s t).arg], x.senders, [], x.closed⟩, [t], rfl, rfl, rfl, rfl, rfl, zap.one _, ?_, rfl, ?_, fun v hv => ?_, fun v hv => .inl hv⟩
   ·exact Ends.go (l := [t]) (Move.one h ht rfl)
   ·rw [List.length_append]
    show ((x.items.length + 1 : Nat) : Int) = x.items.length + (gChn i (opAt p s t) + 0)
    rw [zgv e hk]
    omega
   ·unfold vals at hv ⊢
    rcases xP1 hv with hv | hv
    ·rcases xP1 hv with hv | hv
     ·exact .inl (xQ1 (.inl hv))
     ·exact .inr (xS1 hv)
    ·exact .inl (xQ1 (.inr hv))
  ·rw [if_neg hr]
   dsimp only
   rw [if_pos rfl]
   refine ⟨⟨x.room, x.items, x.senders ++ [(t, (opAt p s t).arg)], [], x.closed⟩, setChn s i ⟨x.room, x.items, x.senders ++ [(t, (opAt p s t).arg)], [], x.closed⟩, [], rfl, rfl, rfl, rfl, rfl, zap.nil _, ?_, rfl, by simp [sumZ], fun v hv => ?_, fun v hv => .inl hv⟩
   ·exact Ends.stat (s := s) (s1 := setChn s i _) rfl t 1
   ·unfold vals at hv ⊢
    rcases xP1 hv with hv | hv
    ·exact .inl (xQ1 (.inl hv))
    ·rw [List.map_append] at hv
     rcases xP1 hv with hv | hv
     ·exact .inl (xQ1 (.inr hv))
     ·exact .inr (xS1 hv)
theorem zj1 (h : Fits p s) (ht : Turn p s t) (hk : (opAt p s t).kind = 9) : ∃ i : Nat, (opAt p s t).on = i ∧ i < s.chans.length ∧
  ∃ (y : ChnD) (s1 : StD) (l : List Int), s1.chans = s.chans.set i y ∧ s1.sems = s.sems ∧ s1.onces = s.onces ∧ s1.groups = s.groups ∧ s1.bars = s.bars ∧ zap p s t 8 l ∧ Ends p s s1 l (zI p s t) ∧ y.closed = (s.chans.getD i zy).closed ∧
   ((y.items.length : Int) = (s.chans.getD i zy).items.length + sumZ (fun z => gChn i (opAt p s z)) l ∨ (y.closed = true ∧ (y.items.length : Int) = (s.chans.getD i zy).items.length ∧ sumZ (fun z => gChn i (opAt p s z)) l ≤ 0)) ∧ (∀ v ∈ vals y, v ∈ vals (s.chans.getD i zy)) ∧ (∀ v ∈ s1.said, v ∈ s.said ∨ v ∈ vals (s.chans.getD i zy)) := by
 obtain ⟨i, e, hi⟩ := zh8 h ht (by omega)
 refine ⟨i, e, hi, ?_⟩
 rw [zj9 hk]
 unfold doGet
 rw [e, zcb]
 obtain ⟨x, hx⟩ : ∃ x, x = s.chans.getD i zy := ⟨_, rfl⟩
 have hin : ∀ u ∈ (s.chans.getD i zy).senders, ((u.1, 8, (i : Int), u.2) : Ent) ∈ ents s := fun u hu => zbA hi (xQ1 (.inl (List.mem_map.2 ⟨u, hu, rfl⟩)))
 rw [← hx] at hin ⊢
 have said : ∀ (s0 : StD) (w v : Int), (w ∈ vals x) → v ∈ (sayIt s0 w).said → v ∈ s0.said ∨ v ∈ vals x := fun s0 w v hw hv => by
  rcases xP1 hv with hv | hv
  ·exact .inl hv
  ·rw [xS1 hv]; exact .inr hw
 cases hs : x.senders with
 | cons l ls =>
  have hE : ∀ q ∈ [((l.1, 8, (i : Int), l.2) : Ent)], q ∈ ents s ∧ q.2.1 = 8 ∧ q.2.2.1 = i := fun q hq => by
   obtain rfl := xS1 hq
   exact ⟨hin l (by rw [hs]; simp), rfl, rfl⟩
  have hM := zap.of (t := t) h e hE
  obtain ⟨k1, k2⟩ := zfH (h.entry (hE (l.1, 8, (i : Int), l.2) (by simp)).1)
  have hl2 : l.2 ∈ vals x := by unfold vals; rw [hs]; simp
  cases hxs : x.items with
  | cons a xs =>
   have e9 : zal x t = (⟨x.room, xs ++ [l.2], ls, x.getters, x.closed⟩, a, 1, [l.1]) := by unfold zal; rw [hs, hxs]
   have ha : a ∈ vals x := by unfold vals; rw [hxs]; simp
   have hm := Move.told h ht (fun q hq => (hE q hq).1) (by simp) (s1 := sayIt (setChn s i ⟨x.room, xs ++ [l.2], ls, x.getters, x.closed⟩) a) rfl
   rw [e9]
   dsimp only
   rw [if_neg (by decide), if_pos rfl]
   refine ⟨⟨x.room, xs ++ [l.2], ls, x.getters, x.closed⟩, sayIt (setChn s i ⟨x.room, xs ++ [l.2], ls, x.getters, x.closed⟩) a, [l.1, t], rfl, rfl, rfl, rfl, rfl, hM, Ends.go hm, rfl, .inl ?_, fun v hv => ?_, fun v hv => said (setChn s i ⟨x.room, xs ++ [l.2], ls, x.getters, x.closed⟩) a v ha hv⟩
   ·rw [List.length_append]
    show ((xs.length + 1 : Nat) : Int) = ((xs.length + 1 : Nat) : Int) + (gChn i (opAt p s l.1) + (gChn i (opAt p s t) + 0))
    rw [zfz e hk, zgv k2 k1]
    omega
   ·unfold vals at hv ⊢
    rw [hxs, hs]
    simp only [List.mem_append, List.mem_cons, List.map_cons, List.not_mem_nil, or_false] at hv ⊢
    rcases hv with (hv | hv) | hv
    ·exact .inl (.inr hv)
    ·exact .inr (.inl hv)
    ·exact .inr (.inr hv)
  | nil =>
   have e9 : zal x t = (⟨x.room, [], ls, x.getters, x.closed⟩, l.2, 1, [l.1]) := by unfold zal; rw [hs, hxs]
   have hm := Move.told h ht (fun q hq => (hE q hq).1) (by simp) (s1 := sayIt (setChn s i ⟨x.room, [], ls, x.getters, x.closed⟩) l.2) rfl
   rw [e9]
   dsimp only
   rw [if_neg (by decide), if_pos rfl]
   refine ⟨⟨x.room, [], ls, x.getters, x.closed⟩, sayIt (setChn s i ⟨x.room, [], ls, x.getters, x.closed⟩) l.2, [l.1, t], rfl, rfl, rfl, rfl, rfl, hM, Ends.go hm, rfl, .inl ?_, fun v hv => ?_, fun v hv => said (setChn s i ⟨x.room, [], ls, x.getters, x.closed⟩) l.2 v hl2 hv⟩
   ·show (0 : Int) = 0 + (gChn i (opAt p s l.1) + (gChn i (opAt p s t) + 0))
    rw [zfz e hk, zgv k2 k1]
    omega
   ·unfold vals at hv ⊢
    rw [hs]
    simp only [List.mem_append, List.mem_cons, List.map_cons, List.not_mem_nil, false_or] at hv ⊢
    exact .inr (.inr hv)
 | nil =>
  cases hxs : x.items with
  | cons a xs =>
   have e9 : zal x t = (⟨x.room, xs, [], x.getters, x.closed⟩, a, 1, []) := by unfold zal; rw [hs, hxs]
   have ha : a ∈ vals x := by unfold vals; rw [hxs]; simp
   rw [e9]
   dsimp only
   rw [if_neg (by decide), if_pos rfl]
   refine ⟨⟨x.room, xs, [], x.getters, x.closed⟩, sayIt (setChn s i ⟨x.room, xs, [], x.getters, x.closed⟩) a, [t], rfl, rfl, rfl, rfl, rfl, zap.one _, ?_, rfl, .inl ?_, fun v hv => ?_, fun v hv => said (setChn s i ⟨x.room, xs, [], x.getters, x.closed⟩) a v ha hv⟩
   ·exact Ends.go (l := [t]) (Move.one h ht rfl)
   ·show (xs.length : Int) = ((xs.length + 1 : Nat) : Int) + (gChn i (opAt p s t) + 0)
    rw [zfz e hk]
    omega
   ·unfold vals at hv ⊢
    rw [hxs]
    simp only [List.mem_append, List.mem_cons, List.map_nil, List.not_mem_nil, or_false] at hv ⊢
    exact .inl (.inr hv)
  | nil =>
   by_cases hc : x.closed = true
   ·have e9 : zal x t = (x, 0, 2, []) := by unfold zal; rw [hs, hxs]; simp only [if_pos hc]
    rw [e9]
    dsimp only
    rw [if_neg (by decide), if_neg (by decide)]
    refine ⟨x, setChn s i x, [t], rfl, rfl, rfl, rfl, rfl, zap.one _, ?_, rfl, .inr ⟨hc, by rw [hxs], ?_⟩, fun v hv => hv, fun v hv => .inl hv⟩
    ·exact Ends.go (l := [t]) (Move.one h ht rfl)
    ·show gChn i (opAt p s t) + 0 ≤ 0
     rw [zfz e hk]
     omega
   ·have e9 : zal x t = (⟨x.room, [], [], x.getters ++ [t], x.closed⟩, 0, 0, []) := by unfold zal; rw [hs, hxs]; simp only [if_neg hc]
    rw [e9]
    dsimp only
    rw [if_pos rfl]
    exact ⟨⟨x.room, [], [], x.getters ++ [t], x.closed⟩, setChn s i _, [], rfl, rfl, rfl, rfl, rfl, zap.nil _, Ends.stat (s := s) (s1 := setChn s i _) rfl t 1, rfl, .inl (by simp [sumZ]), fun v hv => by unfold vals at hv; simp at hv, fun v hv => .inl hv⟩
theorem zjm (h : Fits p s) (ht : Turn p s t) (hk : (opAt p s t).kind = 10) : ∃ i : Nat, (opAt p s t).on = i ∧ i < s.chans.length ∧
  (zI p s t = zbl s 4 ∨ ∃ (y : ChnD) (l : List Int), zap p s t 9 l ∧ Ends p s (setChn s i y) l (zI p s t) ∧ y.closed = true ∧ y.items = (s.chans.getD i zy).items ∧ sumZ (fun z => gChn i (opAt p s z)) l ≤ 0 ∧ (∀ v ∈ vals y, v ∈ vals (s.chans.getD i zy))) := by
 obtain ⟨i, e, hi⟩ := zh8 h ht (by omega)
 refine ⟨i, e, hi, ?_⟩
 rw [zjC hk]
 unfold doClose
 rw [e, zcb]
 unfold zbu
 by_cases hc : (s.chans.getD i zy).closed = true ∨ (s.chans.getD i zy).senders ≠ []
 ·rw [if_pos hc]
  exact .inl rfl
 ·rw [if_neg hc]
  right
  have hE : ∀ x ∈ (s.chans.getD i zy).getters.map fun u => ((u, 9, (i : Int), 0) : Ent), x ∈ ents s ∧ x.2.1 = 9 ∧ x.2.2.1 = i := fun x hx => by
   obtain ⟨u, hu, rfl⟩ := List.mem_map.1 hx
   exact ⟨zbA hi (xQ1 (.inr (List.mem_map.2 ⟨u, hu, rfl⟩))), rfl, rfl⟩
  have hnd : (s.chans.getD i zy).getters.Nodup := by
   have := (h.ch i hi).1.2.2.2.2.1.2.2
   rw [List.nodup_append] at this
   exact this.2.1
  have hm := Move.told h ht (fun x hx => (hE x hx).1) (by rw [zbj]; exact hnd) (s1 := setChn s i ⟨(s.chans.getD i zy).room, (s.chans.getD i zy).items, (s.chans.getD i zy).senders, [], true⟩) rfl
  have hM := zap.of (t := t) h e hE
  rw [zbj] at hm hM
  refine ⟨_, _, hM, Ends.go hm, rfl, rfl, ?_, fun v hv => hv⟩
  have hle : ∀ l : List Int, (∀ z ∈ l, gChn i (opAt p s z) ≤ 0) → sumZ (fun z => gChn i (opAt p s z)) l ≤ 0 := by
   intro l
   induction l with
   | nil => intro _; simp [sumZ]
   | cons z l ih =>
    intro hl
    unfold sumZ
    have := hl z (by simp)
    have := ih fun y hy => hl y (by simp [hy])
    omega
  refine hle _ fun z hz => ?_
  rcases hM z hz with rfl | ⟨k1, -⟩
  ·rw [zko (by omega)]; omega
  ·unfold gChn
   split
   ·rw [k1]; decide
   ·omega
variable {p : Pg} {s : StD} {t : Int}
theorem zjE (h : Fits p s) (ht : Turn p s t) : ∃ (s1 : StD) (l : List Int) (m : Int), Ends p s s1 l (zI p s t) ∧ zap p s t m l ∧
  ((opAt p s t).kind ≠ 2 → (opAt p s t).kind ≠ 3 → s1.sems = s.sems) ∧ ((opAt p s t).kind ≠ 4 → s1.onces = s.onces) ∧ ((opAt p s t).kind ≠ 5 → (opAt p s t).kind ≠ 6 → s1.groups = s.groups) ∧ ((opAt p s t).kind ≠ 7 → s1.bars = s.bars) ∧ ((opAt p s t).kind < 8 → s1.chans = s.chans) ∧ ((opAt p s t).kind < 8 → (opAt p s t).kind ≠ 1 → s1.said = s.said) ∧
  (m = 7 → (opAt p s t).kind = 7) ∧ m ≠ 5 ∧ m ≠ 3 ∧ m ≠ 1 ∧ (m = 2 → (opAt p s t).kind = 3) ∧ (m = 8 ∨ m = 9 → 8 ≤ (opAt p s t).kind) := by
 have hk := zfT (h.opv ht)
 have hkk : (opAt p s t).kind = 1 ∨ (opAt p s t).kind = 2 ∨ (opAt p s t).kind = 3 ∨ (opAt p s t).kind = 4 ∨ (opAt p s t).kind = 5 ∨ (opAt p s t).kind = 6 ∨ (opAt p s t).kind = 7 ∨ (opAt p s t).kind = 8 ∨ (opAt p s t).kind = 9 ∨ (opAt p s t).kind = 10 := by omega
 rcases hkk with k | k | k | k | k | k | k | k | k | k
 ·exact ⟨_, _, 0, zkz h ht k, zap.one _, fun _ _ => rfl, fun _ => rfl, fun _ _ => rfl, fun _ => rfl, fun _ => rfl, fun _ h1 => absurd k h1, by omega, by omega, by omega, by omega, by omega, by omega⟩
 ·obtain ⟨i, y, b, -, -, -, -, hE⟩ := zkH h ht k
  refine ⟨_, _, 0, hE, ?_, fun h1 => absurd k h1, fun _ => rfl, fun _ _ => rfl, fun _ => rfl, fun _ => rfl, fun _ _ => rfl, by omega, by omega, by omega, by omega, by omega, by omega⟩
  cases b
  ·exact zap.nil _
  ·exact zap.one _
 ·obtain ⟨i, e, hi, ⟨-, h1⟩ | ⟨y, P, -, -, hin, -, hE⟩⟩ := zkx h ht k
  ·rw [h1]
   exact ⟨_, _, 0, Ends.fault 1, zap.nil _, fun _ _ => rfl, fun _ => rfl, fun _ _ => rfl, fun _ => rfl, fun _ => rfl, fun _ _ => rfl, by omega, by omega, by omega, by omega, by omega, by omega⟩
  ·refine ⟨_, _, 2, hE, ?_, fun _ h1 => absurd k h1, fun _ => rfl, fun _ _ => rfl, fun _ => rfl, fun _ => rfl, fun _ _ => rfl, by omega, by omega, by omega, by omega, fun _ => k, by omega⟩
   have hM := zap.of (t := t) (k := 2) h e (E := P.map fun z => ((z.1, 2, (i : Int), z.2) : Ent)) fun x hx => by
    obtain ⟨z, hz, rfl⟩ := List.mem_map.1 hx
    exact ⟨hin z hz, rfl, rfl⟩
   rw [List.map_map] at hM
   exact hM
 ·obtain ⟨i, y, l, -, -, hM, hE⟩ := zkJ h ht k
  exact ⟨_, _, 4, hE, hM, fun _ _ => rfl, fun h1 => absurd k h1, fun _ _ => rfl, fun _ => rfl, fun _ => rfl, fun _ _ => rfl, by omega, by omega, by omega, by omega, by omega, by omega⟩
 ·obtain ⟨i, e, hi, h1 | ⟨y, l, -, hM, hE⟩⟩ := zkE h ht k
  ·rw [h1]
   exact ⟨_, _, 0, Ends.fault 2, zap.nil _, fun _ _ => rfl, fun _ => rfl, fun _ _ => rfl, fun _ => rfl, fun _ => rfl, fun _ _ => rfl, by omega, by omega, by omega, by omega, by omega, by omega⟩
  ·exact ⟨_, _, 6, hE, hM, fun _ _ => rfl, fun _ => rfl, fun h1 => absurd k h1, fun _ => rfl, fun _ => rfl, fun _ _ => rfl, by omega, by omega, by omega, by omega, by omega, by omega⟩
 ·obtain ⟨i, y, l, -, -, -, hM, hE⟩ := zkI h ht k
  exact ⟨_, _, 6, hE, hM, fun _ _ => rfl, fun _ => rfl, fun _ h1 => absurd k h1, fun _ => rfl, fun _ => rfl, fun _ _ => rfl, by omega, by omega, by omega, by omega, by omega, by omega⟩
 ·obtain ⟨i, y, l, -, -, -, hM, hE, -⟩ := zkB h ht k
  exact ⟨_, _, 7, hE, hM, fun _ _ => rfl, fun _ => rfl, fun _ _ => rfl, fun h1 => absurd k h1, fun _ => rfl, fun _ _ => rfl, fun _ => k, by omega, by omega, by omega, by omega, by omega⟩
 ·obtain ⟨i, e, hi, h1 | ⟨y, s1, l, -, e2, e3, e4, e5, hM, hE, -⟩⟩ := zj4 h ht k
  ·rw [h1]
   exact ⟨_, _, 0, Ends.fault 3, zap.nil _, fun _ _ => rfl, fun _ => rfl, fun _ _ => rfl, fun _ => rfl, fun _ => rfl, fun _ _ => rfl, by omega, by omega, by omega, by omega, by omega, by omega⟩
  ·exact ⟨_, _, 9, hE, hM, fun _ _ => e2, fun _ => e3, fun _ _ => e4, fun _ => e5, by omega, by omega, by omega, by omega, by omega, by omega, by omega, by omega⟩
 ·obtain ⟨i, e, hi, y, s1, l, -, e2, e3, e4, e5, hM, hE, -⟩ := zj1 h ht k
  exact ⟨_, _, 8, hE, hM, fun _ _ => e2, fun _ => e3, fun _ _ => e4, fun _ => e5, by omega, by omega, by omega, by omega, by omega, by omega, by omega, by omega⟩
 ·obtain ⟨i, e, hi, h1 | ⟨y, l, hM, hE, -⟩⟩ := zjm h ht k
  ·rw [h1]
   exact ⟨_, _, 0, Ends.fault 4, zap.nil _, fun _ _ => rfl, fun _ => rfl, fun _ _ => rfl, fun _ => rfl, fun _ => rfl, fun _ _ => rfl, by omega, by omega, by omega, by omega, by omega, by omega⟩
  ·exact ⟨_, _, 9, hE, hM, fun _ _ => rfl, fun _ => rfl, fun _ _ => rfl, fun _ => rfl, by omega, by omega, by omega, by omega, by omega, by omega, by omega, by omega⟩
def zgC (S : Int → Prop) (s : StD) : Prop := (∀ v ∈ s.said, S v) ∧ ∀ j, ∀ v ∈ vals (s.chans.getD j zy), S v
theorem zgC.set {S : Int → Prop} (I : zgC S s) {i : Nat} {y : ChnD} (hy : ∀ v ∈ vals y, S v) : ∀ j, ∀ v ∈ vals ((s.chans.set i y).getD j zy), S v := fun j => by
 rw [zax]
 split
 ·exact hy
 ·exact I.2 j
theorem zj7 (h : Fits p s) (ht : Turn p s t) {S : Int → Prop} (h1 : (opAt p s t).kind ≠ 1) (h8 : (opAt p s t).kind = 8 → S (opAt p s t).arg) (I : zgC S s) : zgC S (zI p s t) := by
 by_cases k8 : (opAt p s t).kind = 8
 ·obtain ⟨i, e, hi, e1 | ⟨y, s1, l, ec, -, -, -, -, hM, hE, -, -, hv, hs⟩⟩ := zj4 h ht k8
  ·rw [e1]; exact I
  ·refine ⟨fun v hm => ?_, fun j v hm => ?_⟩
   ·rw [hE.sa] at hm
    rcases hs v hm with h2 | rfl
    ·exact I.1 v h2
    ·exact h8 k8
   ·rw [hE.ch, ec] at hm
    exact I.set (fun v hv1 => by
     rcases hv v hv1 with h2 | rfl
     ·exact I.2 i v h2
     ·exact h8 k8) j v hm
 by_cases k9 : (opAt p s t).kind = 9
 ·obtain ⟨i, e, hi, y, s1, l, ec, -, -, -, -, hM, hE, -, -, hv, hs⟩ := zj1 h ht k9
  refine ⟨fun v hm => ?_, fun j v hm => ?_⟩
  ·rw [hE.sa] at hm
   rcases hs v hm with h2 | h2
   ·exact I.1 v h2
   ·exact I.2 i v h2
  ·rw [hE.ch, ec] at hm
   exact I.set (fun v hv1 => I.2 i v (hv v hv1)) j v hm
 by_cases k10 : (opAt p s t).kind = 10
 ·obtain ⟨i, e, hi, e1 | ⟨y, l, hM, hE, -, -, -, hv⟩⟩ := zjm h ht k10
  ·rw [e1]; exact I
  ·refine ⟨fun v hm => I.1 v (by rw [hE.sa] at hm; exact hm), fun j v hm => ?_⟩
   rw [hE.ch] at hm
   exact I.set (fun v hv1 => I.2 i v (hv v hv1)) j v hm
 have hk := zfT (h.opv ht)
 obtain ⟨s1, l, m, hE, -, -, -, -, -, hc, hs, -⟩ := zjE h ht
 exact ⟨fun v hm => I.1 v (by rw [hE.sa, hs (by omega) h1] at hm; exact hm), fun j v hm => I.2 j v (by rw [hE.ch, hc (by omega)] at hm; exact hm)⟩
theorem zhu {ch : StD → List Int → Option Int} {I : StD → Prop} (hst : ∀ s t, Run p s → t ∈ zT s → I s → I (zI p s t)) : ∀ (n : Nat) (s : StD) (tr : List Int) (r : StD × List Int), Run p s → I s → zbN p ch n s tr = some r → Run p r.1 ∧ I r.1
 | 0, _, _, _, _, _, h => by cases h
 | n + 1, s, tr, r, hr, hI, h => by
  unfold zbN at h
  split at h
  ·obtain rfl := Option.some.inj h
   exact ⟨hr, hI⟩
  ·next t _ =>
   split at h
   ·next ht => exact zhu hst n _ _ r (hr.step (hr.fits.turn ht)) (hst s t hr ht hI) h
   ·cases h
theorem zgO {ch : StD → List Int → Option Int} (hch : ∀ s tr t, ch s tr = some t → t ∈ zT s) (h100 : ∀ s tr, 100 ≤ tr.length → ch s tr = none) : ∀ (n : Nat) (s : StD) (tr : List Int), n + tr.length = 101 → tr.length ≤ 100 → ∃ r, zbN p ch n s tr = some r
 | 0, s, tr, h1, h2 => by omega
 | n + 1, s, tr, h1, h2 => by
  cases e : ch s tr with
  | none => exact ⟨_, zhA e⟩
  | some t =>
   rw [zgs e (hch s tr t e)]
   have hl : (tr ++ [t]).length = tr.length + 1 := by rw [List.length_append]; rfl
   refine zgO hch h100 n _ _ (by rw [hl]; omega) ?_
   rw [hl]
   refine Nat.lt_of_not_le fun h3 => ?_
   rw [h100 s tr h3] at e
   cases e
variable {p : Pg} {s : StD} {t : Int} {ch : StD → List Int → Option Int} {tr : List Int}
theorem zki (hv : zq p = true) (hw : zbN p ch 101 (zad p) [] = some (s, tr)) {I : StD → Prop} (h0 : I (zad p)) (hst : ∀ s t, Run p s → Turn p s t → I s → I (zI p s t)) : I s :=
 (zhu (I := I) (fun s t hr ht => hst s t hr (hr.fits.turn ht)) 101 (zad p) [] (s, tr) (Run.start hv) h0 hw).2
theorem At.mem (h : At p s t) : opAt p s t ∈ p.threads.getD t.toNat [] := by
 have h1 := h.lt
 have h0 := h.ge
 unfold zb3 at h1
 have hk : (s.places.getD t.toNat 0).toNat < (p.threads.getD t.toNat []).length := by omega
 have e : opAt p s t = (p.threads.getD t.toNat [])[(s.places.getD t.toNat 0).toNat] := by
  unfold opAt zb3
  rw [List.getD_eq_getElem?_getD (l := p.threads.getD t.toNat []), List.getElem?_eq_getElem hk]
  rfl
 rw [e]
 exact List.getElem_mem hk
theorem zjX (hv : zq p = true) (hw : zbN p ch 101 (zad p) [] = some (s, tr)) (h1 : ∀ i, ∀ o ∈ p.threads.getD i [], o.kind ≠ 1) : ∀ v ∈ s.said, ∃ i, ∃ o ∈ p.threads.getD i [], o.kind = 8 ∧ o.arg = v :=
 (zki (I := zgC fun v => ∃ i, ∃ o ∈ p.threads.getD i [], o.kind = 8 ∧ o.arg = v) hv hw ⟨fun _ h => (by cases h), fun j v hm => by
  exfalso
  have e : (zad p).chans.getD j zy = (p.rooms.map fun n => (⟨n, [], [], [], false⟩ : ChnD)).getD j zy := rfl
  rw [e] at hm
  by_cases hj : j < p.rooms.length
  ·rw [zdE _ _ 0 _ hj] at hm
   cases hm
  ·rw [zdC (by rw [List.length_map]; exact hj)] at hm
   cases hm⟩ fun s t hr ht I => zj7 hr.fits ht (h1 _ _ (ht.at hr.fits).mem) (fun k => ⟨_, _, (ht.at hr.fits).mem, k, rfl⟩) I).1
end Go.Proofs.Ytppoohbkkdgljaa
