/- FormatProg of the program. -/
import Derived.Test.YthamndmfenpniaaGreatDoorFmtImpl2
import Derived.Test.YthamndmfenpniaaGreatDoorBaseB
namespace Go.Proofs.YthamndmfenpniaaGreatDoor
open Go.RowKit

def wordT : Nat → ByteArray
  | 0 => semsB
  | 1 => groupsB
  | 2 => barriersB
  | _ => roomsB
def lstT (p : Pg) : Nat → List Int
  | 0 => p.sems
  | 1 => p.groups
  | 2 => p.barriers
  | _ => p.rooms
def thingsTo (p : Pg) : Nat → ByteArray
  | 0 => ⟨#[]⟩
  | k + 1 => thingsTo p k ++ listText (wordT k) (lstT p k)
theorem things_all (p : Pg) : thingsTo p 4 = listsText p := by
  apply ByteArray.ext
  simp [thingsTo, listsText, wordT, lstT]
theorem lst_facts {p : Pg} (hv : progValid p = true) (k : Nat) : (lstT p k).length ≤ 3 ∧ ∀ j, j < (lstT p k).length → -9 ≤ (lstT p k).getD j 0 ∧ (lstT p k).getD j 0 ≤ 9 := by
  obtain ⟨h1, h2, h3, h4⟩ := valid_lists hv
  have go : ∀ {l : List Int} {lo hi : Int}, within l lo hi = true → -9 ≤ lo → hi ≤ 9 → l.length ≤ 3 ∧ ∀ j, j < l.length → -9 ≤ l.getD j 0 ∧ l.getD j 0 ≤ 9 := fun h a b => by
    obtain ⟨e1, e2⟩ := within_facts h
    exact ⟨e1, fun j hj => by have := e2 j hj; omega⟩
  match k with
  | 0 => exact go h1 (by decide) (by decide)
  | 1 => exact go h2 (by decide) (by decide)
  | 2 => exact go h3 (by decide) (by decide)
  | n + 3 => exact go h4 (by decide) (by decide)
theorem wordT_size (k : Nat) : (wordT k).size ≤ 8 := by
  match k with
  | 0 => decide
  | 1 => decide
  | 2 => decide
  | n + 3 => show roomsB.size ≤ 8; decide
theorem thingsTo_size {p : Pg} (hv : progValid p = true) : ∀ k, (thingsTo p k).size ≤ 72 * k
  | 0 => Nat.le_refl 0
  | k + 1 => by
    have h1 := thingsTo_size hv k
    obtain ⟨h2, h3⟩ := lst_facts hv k
    have h4 := listText_size (word := wordT k) (l := lstT p k) (fun j hj => by have := h3 j hj; unfold InI64; omega) (wordT_size k) h2
    show (thingsTo p k ++ listText (wordT k) (lstT p k)).size ≤ _
    rw [ByteArray.size_append]; omega
/-- The k-th list of a program's value. -/
theorem rd_lst {w W : World} {v : PV} {p : Pg} {P : Nat} (hr : RdP w v p) (hk : Blk W P #[.slice v.s v.ns v.cs, .slice v.g v.ng v.cg, .slice v.b v.nb v.cb, .slice v.r v.nr v.cr, .slice v.t v.nt v.ct] 27) (k : Nat) (h4 : k < 4) : ∃ (a : Option Addr) (n c : Nat), W.cell? ⟨P, k, none⟩ = some (.slice a n c) ∧ (lstT p k).length = n ∧ Rd w a (ints (lstT p k)) := by
  match k, h4 with
  | 0, _ => exact ⟨v.s, v.ns, v.cs, hk.cell 0 rfl, hr.ls, hr.rs⟩
  | 1, _ => exact ⟨v.g, v.ng, v.cg, hk.cell 1 rfl, hr.lg, hr.rg⟩
  | 2, _ => exact ⟨v.b, v.nb, v.cb, hk.cell 2 rfl, hr.lb, hr.rb⟩
  | 3, _ => exact ⟨v.r, v.nr, v.cr, hk.cell 3 rfl, hr.lr, hr.rr⟩
theorem thing_cells {W : World} {g P : Nat} (hk : Blk W g (thingCells P) 52) (k : Nat) (h4 : k < 4) : W.cell? ⟨g, k * 2, none⟩ = some (.string (wordT k)) ∧ W.cell? ⟨g, k * 2 + 1, none⟩ = some (.pointer (some ⟨P, k, none⟩)) := by
  match k, h4 with
  | 0, _ => exact ⟨hk.cell 0 rfl, hk.cell 1 rfl⟩
  | 1, _ => exact ⟨hk.cell 2 rfl, hk.cell 3 rfl⟩
  | 2, _ => exact ⟨hk.cell 4 rfl, hk.cell 5 rfl⟩
  | 3, _ => exact ⟨hk.cell 6 rfl, hk.cell 7 rfl⟩

set_option maxRecDepth 100000 in
set_option maxHeartbeats 8000000 in
theorem implFormatProg_any (v : PV) (p : Pg) (w : World) (hL : Laid w) (hr : RdP w v p) (hz : Small v p) :
    Calls Tryz.prog 12 #[.agg #[.slice v.s v.ns v.cs, .slice v.g v.ng v.cg, .slice v.b v.nb v.cb, .slice v.r v.nr v.cr, .slice v.t v.nt v.ct]] w fun e w' => e = .returned (.string (fmtProg p)) ∧ Below w.heap.size w w' := by
  have HZ := Lib.hid hz
  have z5 : v.nt ≤ 1048576 := hz.lt
  have lt := Lib.hid hr.lt
  have B0 : Below w.heap.size w (w.alloc (.cells #[.slice v.s v.ns v.cs, .slice v.g v.ng v.cg, .slice v.b v.nb v.cb, .slice v.r v.nr v.cr, .slice v.t v.nt v.ct] 27)) := (Below.refl _ _).alloc (Nat.le_refl _) _
  have k0 : Blk (w.alloc (.cells #[.slice v.s v.ns v.cs, .slice v.g v.ng v.cg, .slice v.b v.nb v.cb, .slice v.r v.nr v.cr, .slice v.t v.nt v.ct] 27)) w.heap.size #[.slice v.s v.ns v.cs, .slice v.g v.ng v.cg, .slice v.b v.nb v.cb, .slice v.r v.nr v.cr, .slice v.t v.nt v.ct] 27 := Blk.new _ _ _
  have HR := Lib.hid (hr.below B0)
  have HLD := Lib.hid (hL.below B0)
  have HK := Lib.hid k0
  have HB := Lib.hid B0
  have q0 : (w.alloc (.cells #[.slice v.s v.ns v.cs, .slice v.g v.ng v.cg, .slice v.b v.nb v.cb, .slice v.r v.nr v.cr, .slice v.t v.nt v.ct] 27)).cell? ⟨w.heap.size, 0, none⟩ = some (.slice v.s v.ns v.cs) := k0.cell 0 rfl
  have q1 : (w.alloc (.cells #[.slice v.s v.ns v.cs, .slice v.g v.ng v.cg, .slice v.b v.nb v.cb, .slice v.r v.nr v.cr, .slice v.t v.nt v.ct] 27)).cell? ⟨w.heap.size, 1, none⟩ = some (.slice v.g v.ng v.cg) := k0.cell 1 rfl
  have q2 : (w.alloc (.cells #[.slice v.s v.ns v.cs, .slice v.g v.ng v.cg, .slice v.b v.nb v.cb, .slice v.r v.nr v.cr, .slice v.t v.nt v.ct] 27)).cell? ⟨w.heap.size, 2, none⟩ = some (.slice v.b v.nb v.cb) := k0.cell 2 rfl
  have q3 : (w.alloc (.cells #[.slice v.s v.ns v.cs, .slice v.g v.ng v.cg, .slice v.b v.nb v.cb, .slice v.r v.nr v.cr, .slice v.t v.nt v.ct] 27)).cell? ⟨w.heap.size, 3, none⟩ = some (.slice v.r v.nr v.cr) := k0.cell 3 rfl
  have q4 : (w.alloc (.cells #[.slice v.s v.ns v.cs, .slice v.g v.ng v.cg, .slice v.b v.nb v.cb, .slice v.r v.nr v.cr, .slice v.t v.nt v.ct] 27)).cell? ⟨w.heap.size, 4, none⟩ = some (.slice v.t v.nt v.ct) := k0.cell 4 rfl
  clear hz hr k0 B0 hL
  go_enter Tryz.func12, Tryz.ntmps12
  go_wp2_with fail
  obtain ⟨W0, hW0⟩ : ∃ W0 : World, W0 = w.alloc (.cells #[.slice v.s v.ns v.cs, .slice v.g v.ng v.cg, .slice v.b v.nb v.cb, .slice v.r v.nr v.cr, .slice v.t v.nt v.ct] 27) := ⟨_, rfl⟩
  have hsz : w.heap.size < W0.heap.size := by rw [hW0]; simp
  rw [← hW0] at HR HK HB HLD ⊢
  clear q0 q1 q2 q3 q4 hW0
  refine (implProgValid_any v p _ HR.out HZ.out).mono ?_
  rintro e w1 ⟨rfl, hb⟩
  have HB1 := Lib.hid hb
  clear hb
  cases hv : progValid p with
  | false =>
    have HM : Hid (fmtProg p = ⟨#[]⟩) := Lib.hid (by unfold fmtProg; rw [if_neg (by rw [hv]; decide)])
    clear hv
    go_wp2
    go_ret
    exact ⟨ret_str HM.out.symm, HB.out.trans (HB1.out.mono HB.out.size)⟩
  | true =>
    have HV := Lib.hid hv
    have HM : Hid (fmtProg p = thrTo (listsText p) p.threads p.threads.length) := Lib.hid (by unfold fmtProg; rw [if_pos hv])
    have hn4 := (valid_threads hv).2
    have hnt : v.nt ≤ 4 := by have := lt.out; omega
    have hs1 : W0.heap.size ≤ w1.heap.size := HB1.out.size
    have HRT := Lib.hid (HR.out.below HB1.out)
    have HKT := Lib.hid (HK.out.below HB1.out)
    have HLT := Lib.hid (HLD.out.below HB1.out)
    have BA : Below w1.heap.size w1 (w1.alloc (.cells #[.pointer none, .slice none 0 0] 68)) := (Below.refl _ _).alloc (Nat.le_refl _) _
    have HBA := Lib.hid BA
    have HNB := Lib.hid (Bld.new w1)
    clear hv hn4 BA
    go_wp2_with fail
    obtain ⟨W1, hW1⟩ : ∃ W1 : World, W1 = w1.alloc (.cells #[.pointer none, .slice none 0 0] 68) := ⟨_, rfl⟩
    have hsz1 : w1.heap.size < W1.heap.size := by rw [hW1]; simp
    rw [← hW1] at HBA HNB ⊢
    clear hW1
    refine (things_any w.heap.size W1).mono ?_
    rintro e w2 ⟨g, rfl, hkg, hgs, hb⟩
    have HKG := Lib.hid hkg
    have hgb : g ≠ w1.heap.size := by omega
    have HN2 := Lib.hid (HNB.out.below hb)
    have HB2 := Lib.hid (HBA.out.trans (hb.mono HBA.out.size))
    clear hkg hb HNB HBA
    go_wp2
    go_loopw [13] (fun vi wr => ∃ k : Nat, k ≤ 4 ∧ vi = .int .i64 k ∧ Hid (Bld wr w1.heap.size w1.heap.size (thingsTo p k)) ∧ Hid (Blk wr g (thingCells w.heap.size) 52) ∧ Hid (Below w1.heap.size w1 wr)) (fun vi _ => 4 - (intOf vi).toNat)
    case atStart => exact ⟨0, by omega, rfl, HN2, HKG, HB2⟩
    case round =>
      obtain ⟨k, hk, rfl, HBL, HKK, HBW⟩ := hrel
      have hgr : w1.heap.size ≤ wr.heap.size := HBW.out.size
      by_cases hlt : k < 4
      · obtain ⟨a, n, c, hcell, hlen, hrd⟩ := rd_lst (HRT.out.below HBW.out) (HKT.out.below HBW.out) k hlt
        obtain ⟨t1, t2⟩ := thing_cells HKK.out k hlt
        obtain ⟨l3, lb⟩ := lst_facts HV.out k
        have hts := thingsTo_size HV.out k
        have hws := wordT_size k
        obtain ⟨word, hword⟩ : ∃ s, s = wordT k := ⟨_, rfl⟩
        obtain ⟨l, hl⟩ : ∃ l, l = lstT p k := ⟨_, rfl⟩
        rw [← hword] at t1 hws
        rw [← hl] at hlen hrd l3 lb
        have HNX : Hid (thingsTo p (k + 1) = thingsTo p k ++ listText word l) := Lib.hid (by rw [hword, hl]; rfl)
        obtain ⟨S, hS⟩ : ∃ S, S = thingsTo p k := ⟨_, rfl⟩
        rw [← hS] at HBL hts HNX
        have HLEN := Lib.hid hlen
        have HLB := Lib.hid lb
        have hn3 : n ≤ 3 := by omega
        have bA : Below wr.heap.size wr (wr.alloc (.cells #[.string word, .pointer (some ⟨w.heap.size, k, none⟩)] 52)) := (Below.refl _ _).alloc (Nat.le_refl _) _
        have kA : Blk (wr.alloc (.cells #[.string word, .pointer (some ⟨w.heap.size, k, none⟩)] 52)) wr.heap.size #[.string word, .pointer (some ⟨w.heap.size, k, none⟩)] 52 := Blk.new _ _ _
        obtain ⟨WA, hWA⟩ : ∃ WA : World, WA = wr.alloc (.cells #[.string word, .pointer (some ⟨w.heap.size, k, none⟩)] 52) := ⟨_, rfl⟩
        have hcA := keepc bA hcell
        have hcB := hcA
        rw [← hWA] at bA kA hcA
        have HRD := Lib.hid (hrd.below bA)
        have HLA := Lib.hid ((HLT.out.below HBW.out).below bA)
        have HBLA := Lib.hid (HBL.out.below bA)
        have HKKA := Lib.hid (HKK.out.below bA)
        have HBWA := Lib.hid (HBW.out.trans (bA.mono hgr))
        have hgrA : w1.heap.size ≤ WA.heap.size := HBWA.out.size
        have e0 := kA.cell 0 rfl
        have e1 := kA.cell 1 rfl
        have HWA := Lib.hid hWA
        clear hword hl hS hlen lb hrd l3 hWA kA bA
        by_cases hn0 : 0 < n
        · have HLX : Hid (listText word l = (word ++ listTo ⟨#[]⟩ l n) ++ nlB) := Lib.hid (by unfold listText; rw [if_neg (by have := HLEN.out; omega), listTo_word, HLEN.out])
          have hlts := listTo_size (word := ⟨#[]⟩) (l := l) (fun j hj => by have := HLB.out j hj; unfold InI64; omega) n (by have := HLEN.out; omega)
          have hz0 : (⟨#[]⟩ : ByteArray).size = 0 := rfl
          have hz1 : nlB.size = 1 := rfl
          obtain ⟨T, hT⟩ : ∃ T, T = listTo ⟨#[]⟩ l n := ⟨_, rfl⟩
          rw [← hT] at HLX hlts
          have HT := Lib.hid hT
          have hTs : T.size ≤ 63 := by omega
          clear hT hlts
          go_wp2
          rw [← HWA.out]
          clear hcB
          refine wp_region_fresh 9 (by kernel_rfl) (by kernel_rfl) [fun dz uz wz => uz = .pointer (some ⟨wr.heap.size, 0, none⟩), fun dz uz wz => uz = .string word, fun dz uz wz => uz = .pointer (some ⟨wr.heap.size, 1, none⟩), fun dz uz wz => uz = .pointer (some ⟨w.heap.size, k, none⟩), fun dz uz wz => uz = .pointer (some ⟨w.heap.size, k, none⟩), fun dz uz wz => uz = .slice a n c, fun dz uz wz => uz = .string T, fun dz uz wz => uz = .string (word ++ T), fun dz uz wz => uz = .string (word ++ T ++ nlB)] (fun i => match i with | _ => fun _ => none) (fun w' => Below WA.heap.size WA w') (Below.refl _ _).drew (stab_of ⟨fun _ _ _ _ _ h => h, fun _ _ _ _ _ h => h, fun _ _ _ _ _ h => h, fun _ _ _ _ _ h => h, fun _ _ _ _ _ h => h, fun _ _ _ _ _ h => h, fun _ _ _ _ _ h => h, fun _ _ _ _ _ h => h, fun _ _ _ _ _ h => h, trivial⟩) ?_ ?_
          · simp only [List.take_succ_cons, List.take_zero]
            refine ⟨?_, ?_, ?_, ?_, ?_, ?_, ?_, ?_, ?_, trivial⟩
            · intro ρ w1 hG hfr hd
              have fc : ∀ z, ρ (.const z) = z := fun _ => hfr _ rfl
              have ff : ∀ z, ρ (.func z) = .func (.func z) #[] #[] := fun _ => hfr _ rfl
              have f5 : ρ (.tmp 5) = .pointer (some ⟨wr.heap.size, 0, none⟩) := hfr _ rfl
              refine gives_val (u := .pointer (some ⟨wr.heap.size, 0, none⟩)) (w' := w1) (by go_simp) ⟨Below.refl _ _, rfl, (fun _ hk => by cases hk), hG⟩
            · intro ρ w1 hG hfr hd
              have fc : ∀ z, ρ (.const z) = z := fun _ => hfr _ rfl
              have ff : ∀ z, ρ (.func z) = .func (.func z) #[] #[] := fun _ => hfr _ rfl
              obtain ⟨d0, -⟩ := hd
              have d0 : (ρ (.tmp 23)) = .pointer (some ⟨wr.heap.size, 0, none⟩) := d0
              have e0 := keepc hG e0
              refine gives_val (u := .string word) (w' := w1) (by go_simp) ⟨Below.refl _ _, rfl, (fun _ hk => by cases hk), hG⟩
            · intro ρ w1 hG hfr hd
              have fc : ∀ z, ρ (.const z) = z := fun _ => hfr _ rfl
              have ff : ∀ z, ρ (.func z) = .func (.func z) #[] #[] := fun _ => hfr _ rfl
              have f5 : ρ (.tmp 5) = .pointer (some ⟨wr.heap.size, 0, none⟩) := hfr _ rfl
              refine gives_val (u := .pointer (some ⟨wr.heap.size, 1, none⟩)) (w' := w1) (by go_simp) ⟨Below.refl _ _, rfl, (fun _ hk => by cases hk), hG⟩
            · intro ρ w1 hG hfr hd
              have fc : ∀ z, ρ (.const z) = z := fun _ => hfr _ rfl
              have ff : ∀ z, ρ (.func z) = .func (.func z) #[] #[] := fun _ => hfr _ rfl
              obtain ⟨d0, -⟩ := hd
              have d0 : (ρ (.tmp 25)) = .pointer (some ⟨wr.heap.size, 1, none⟩) := d0
              have e1 := keepc hG e1
              refine gives_val (u := .pointer (some ⟨w.heap.size, k, none⟩)) (w' := w1) (by go_simp) ⟨Below.refl _ _, rfl, (fun _ hk => by cases hk), hG⟩
            · intro ρ w1 hG hfr hd
              have fc : ∀ z, ρ (.const z) = z := fun _ => hfr _ rfl
              have ff : ∀ z, ρ (.func z) = .func (.func z) #[] #[] := fun _ => hfr _ rfl
              obtain ⟨d0, -⟩ := hd
              have d0 : (ρ (.tmp 26)) = .pointer (some ⟨w.heap.size, k, none⟩) := d0
              refine gives_val (u := .pointer (some ⟨w.heap.size, k, none⟩)) (w' := w1) (by go_simp) ⟨Below.refl _ _, rfl, (fun _ hk => by cases hk), hG⟩
            · intro ρ w1 hG hfr hd
              have fc : ∀ z, ρ (.const z) = z := fun _ => hfr _ rfl
              have ff : ∀ z, ρ (.func z) = .func (.func z) #[] #[] := fun _ => hfr _ rfl
              obtain ⟨d0, -⟩ := hd
              have d0 : (ρ (.tmp 27)) = .pointer (some ⟨w.heap.size, k, none⟩) := d0
              have hcA := keepc hG hcA
              refine gives_val (u := .slice a n c) (w' := w1) (by go_simp) ⟨Below.refl _ _, rfl, (fun _ hk => by cases hk), hG⟩
            · intro ρ w1 hG hfr hd
              have fc : ∀ z, ρ (.const z) = z := fun _ => hfr _ rfl
              have ff : ∀ z, ρ (.func z) = .func (.func z) #[] #[] := fun _ => hfr _ rfl
              obtain ⟨d0, -⟩ := hd
              have d0 : (ρ (.tmp 28)) = .slice a n c := d0
              rw [HT.out]
              refine gives_call (by go_simp; exact ⟨⟨rfl, rfl⟩, rfl⟩) ?_
              refine (implNumbersText_any a n c l _ (HLA.out.below hG) HLEN.out (by omega) (HRD.out.below hG) (fun j hj => by have := HLB.out j hj; omega)).mono ?_
              rintro e w2 ⟨rfl, hb⟩
              exact ⟨_, rfl, hb, rfl, (fun _ hk => by cases hk), hG.trans (hb.mono hG.size)⟩
            · intro ρ w1 hG hfr hd
              have fc : ∀ z, ρ (.const z) = z := fun _ => hfr _ rfl
              have ff : ∀ z, ρ (.func z) = .func (.func z) #[] #[] := fun _ => hfr _ rfl
              obtain ⟨d0, d1, -⟩ := hd
              have d0 : (ρ (.tmp 24)) = .string word := d0
              have d1 : (ρ (.tmp 29)) = .string T := d1
              have s1 := run_string_add_sum (P := Tryz.prog) (w := w1) word T (by omega)
              refine gives_val (u := .string (word ++ T)) (w' := w1) (by go_simp) ⟨Below.refl _ _, rfl, (fun _ hk => by cases hk), hG⟩
            · intro ρ w1 hG hfr hd
              have fc : ∀ z, ρ (.const z) = z := fun _ => hfr _ rfl
              have ff : ∀ z, ρ (.func z) = .func (.func z) #[] #[] := fun _ => hfr _ rfl
              obtain ⟨d0, -⟩ := hd
              have d0 : (ρ (.tmp 30)) = .string (word ++ T) := d0
              have s1 := run_string_add_sum (P := Tryz.prog) (w := w1) (word ++ T) ⟨#[10]⟩ (by rw [ByteArray.size_append]; show _ + nlB.size ≤ _; omega)
              refine gives_val (u := .string (word ++ T ++ nlB)) (w' := w1) (by go_simp; rfl) ⟨Below.refl _ _, rfl, (fun _ hk => by cases hk), hG⟩
          intro vs w2 hG hlen hall hap hbd
          obtain ⟨xv0, vs0, rfl, hl0⟩ := len_cons hlen
          obtain ⟨xv1, vs1, rfl, hl1⟩ := len_cons hl0
          obtain ⟨xv2, vs2, rfl, hl2⟩ := len_cons hl1
          obtain ⟨xv3, vs3, rfl, hl3⟩ := len_cons hl2
          obtain ⟨xv4, vs4, rfl, hl4⟩ := len_cons hl3
          obtain ⟨xv5, vs5, rfl, hl5⟩ := len_cons hl4
          obtain ⟨xv6, vs6, rfl, hl6⟩ := len_cons hl5
          obtain ⟨xv7, vs7, rfl, hl7⟩ := len_cons hl6
          obtain ⟨xv8, vs8, rfl, hl8⟩ := len_cons hl7
          obtain rfl := len_nil hl8
          clear hlen hl0 hl1 hl2 hl3 hl4 hl5 hl6 hl7 hl8
          simp only [List.take_succ_cons, List.take_zero, List.drop_succ_cons, List.drop_zero] at hall ⊢
          obtain ⟨t0', t1', t2', t3', t4', t5', t6', t7', t8', -⟩ := hall
          have hv0 : xv0 = .pointer (some ⟨wr.heap.size, 0, none⟩) := t0'
          have hv1 : xv1 = .string word := t1'
          have hv2 : xv2 = .pointer (some ⟨wr.heap.size, 1, none⟩) := t2'
          have hv3 : xv3 = .pointer (some ⟨w.heap.size, k, none⟩) := t3'
          have hv4 : xv4 = .pointer (some ⟨w.heap.size, k, none⟩) := t4'
          have hv5 : xv5 = .slice a n c := t5'
          have hv6 : xv6 = .string T := t6'
          have hv7 : xv7 = .string (word ++ T) := t7'
          have hv8 : xv8 = .string (word ++ T ++ nlB) := t8'
          clear t0' t1' t2' t3' t4' t5' t6' t7' t8'
          clear hap hbd
          subst hv0 hv1 hv2 hv3 hv4 hv5 hv7 hv8
          simp only [putAll, Act.put, List.setIfInBounds_toArray, List.set_cons_succ, List.set_cons_zero]
          clear hcA
          have HBL2 := Lib.hid (HBLA.out.below hG)
          have HKK2 := Lib.hid (HKKA.out.below hG)
          have HBW2 := Lib.hid (HBWA.out.trans (hG.mono hgrA))
          have hgr2 : w1.heap.size ≤ w2.heap.size := HBW2.out.size
          have hsw : S.size + (word ++ T ++ nlB).size ≤ 1099511627776 := by simp only [ByteArray.size_append]; omega
          clear hG
          go_wp2_with fail
          refine (bwrite_any (word ++ T ++ nlB) HBL2.out hsw hgr2).mono ?_
          rintro e w3 ⟨rfl, hk3, hb3, ho3⟩
          have HK3 := Lib.hid hk3
          have HB3 := Lib.hid (HBW2.out.trans hb3)
          have HKK3 := Lib.hid (blk_others HKK2.out ho3 hgb (by decide))
          clear hk3 hb3 ho3
          go_wp2
          go_roundw
          case rel => exact ⟨k + 1, by omega, by go_num, Lib.hid (by rw [HNX.out, HLX.out]; exact HK3.out), HKK3, HB3⟩
          case measure => simp [intOf]; omega
        · have HLX : Hid (listText word l = ⟨#[]⟩) := Lib.hid (by unfold listText; rw [if_pos (by have := HLEN.out; omega)])
          obtain rfl : n = 0 := by omega
          go_wp2
          rw [← HWA.out]
          go_roundw
          case rel => exact ⟨k + 1, by omega, by go_num, Lib.hid (by rw [HNX.out, HLX.out, show S ++ (⟨#[]⟩ : ByteArray) = S from by apply ByteArray.ext; simp]; exact HBLA.out), HKKA, HBWA⟩
          case measure => simp [intOf]; omega
      · obtain rfl : k = 4 := by omega
        have HBL9 : Hid (Bld wr w1.heap.size w1.heap.size (listsText p)) := Lib.hid (by rw [← things_all]; exact HBL.out)
        have q4 := (HKT.out.below HBW.out).cell 4 rfl
        obtain ⟨vs0, hT0⟩ := HRT.out.rt
        obtain ⟨tb, tz, ea, g1'⟩ := hT0.thread (by have := lt.out; have := (valid_threads HV.out).1; omega)
        rw [ea] at q4
        have G1 := Lib.hid g1'
        have hls := listsText_size HV.out
        have HLS := Lib.hid hls
        clear g1' ea hls HKK HBL hT0
        go_wp2
        go_loopw [37] (fun vi wr => ∃ i : Nat, i ≤ v.nt ∧ vi = .int .i64 i ∧ Hid (Bld wr w1.heap.size w1.heap.size (thrTo (listsText p) p.threads i)) ∧ Hid (Below w1.heap.size w1 wr)) (fun vi _ => v.nt - (intOf vi).toNat)
        case atStart => exact ⟨0, by omega, rfl, HBL9, HBW⟩
        case round =>
          obtain ⟨wt, rfl⟩ : ∃ x, x = wr := ⟨_, rfl⟩
          obtain ⟨i, hi, rfl, HBT, HBW3⟩ := hrel
          have hgt : w1.heap.size ≤ wt.heap.size := HBW3.out.size
          by_cases hit : i < v.nt
          · obtain ⟨a2, x2, g1, r2⟩ := G1.out i (by have := lt.out; omega)
            replace g1 := keepc HBW3.out g1
            have hrd := r2.below HBW3.out
            have hfm : ∀ j, j < (p.threads.getD i []).length → (1 ≤ ((p.threads.getD i []).getD j noOp).kind ∧ ((p.threads.getD i []).getD j noOp).kind ≤ 10) ∧ (-99 ≤ ((p.threads.getD i []).getD j noOp).on ∧ ((p.threads.getD i []).getD j noOp).on ≤ 99) ∧ (-99 ≤ ((p.threads.getD i []).getD j noOp).arg ∧ ((p.threads.getD i []).getD j noOp).arg ≤ 99) := fun j hj => by
              have ho := valid_op HV.out (by have := lt.out; omega) hj
              have h1 := valid_bounds HV.out ho
              have h2 := (opValid_facts ho).1
              exact ⟨h2, by omega, by omega⟩
            have hl8 := valid_len HV.out (i := i) (by have := lt.out; omega)
            have hts := thrTo_size (s := listsText p) (fun i hi => valid_len HV.out hi) (fun i j hi hj => valid_i64 HV.out i j hi hj) i (by have := lt.out; omega)
            obtain ⟨t, ht⟩ : ∃ t, t = p.threads.getD i [] := ⟨_, rfl⟩
            rw [← ht] at g1 hrd hfm hl8
            have hxs := threadText_size (l := t) (fun j hj => by have := hfm j hj; unfold InI64; omega) hl8
            have HNX : Hid (thrTo (listsText p) p.threads (i + 1) = thrTo (listsText p) p.threads i ++ (threadText t ++ nlB)) := Lib.hid (by
              rw [thrTo, ← ht, opsTo_word]
              unfold threadText
              rw [opsTo_word threadB t]
              simp only [ByteArray.append_assoc])
            obtain ⟨S, hS⟩ : ∃ S, S = thrTo (listsText p) p.threads i := ⟨_, rfl⟩
            rw [← hS] at HBT hts HNX
            obtain ⟨m, hm⟩ : ∃ m, t.length = m := ⟨_, rfl⟩
            rw [hm] at g1 hl8
            have HM9 := Lib.hid hm
            have HFM := Lib.hid hfm
            have HRD := Lib.hid hrd
            have hz1 : nlB.size = 1 := rfl
            have HLS9 := HLS.out
            have hSz : S.size ≤ 2000 := by omega
            obtain ⟨X, hX⟩ : ∃ X, X = threadText t := ⟨_, rfl⟩
            rw [← hX] at hxs HNX
            have HX := Lib.hid hX
            have s1 := fun (W : World) => run_string_add_sum (P := Tryz.prog) (w := W) X ⟨#[10]⟩ (by show _ + nlB.size ≤ _; omega)
            have hsw : S.size + (X ++ nlB).size ≤ 1099511627776 := by simp only [ByteArray.size_append]; omega
            have hld := HLT.out.below HBW3.out
            clear ht hS hm hX hfm hrd hts HLS9 r2
            go_wp2_with fail
            refine (formatThread_any a2 m x2 t _ hld HM9.out hl8 HRD.out HFM.out).mono ?_
            rintro e w3 ⟨rfl, hb3⟩
            rw [← HX.out]
            have HBT3 := Lib.hid (HBT.out.below hb3)
            have HB3 := Lib.hid (HBW3.out.trans (hb3.mono hgt))
            have hgt3 : w1.heap.size ≤ w3.heap.size := HB3.out.size
            clear hb3
            go_wp2_with fail
            refine (bwrite_any (X ++ nlB) HBT3.out hsw hgt3).mono ?_
            rintro e w4 ⟨rfl, hk4, hb4, -⟩
            have HK4 := Lib.hid hk4
            have HB4 := Lib.hid (HB3.out.trans hb4)
            clear hk4 hb4
            go_wp2
            refine ⟨⟨_, _, _, _, _, _, _, _, _, _, ?rel, rfl⟩, ?measure⟩
            case rel => exact ⟨i + 1, by omega, by go_num, Lib.hid (by rw [HNX.out]; exact HK4.out), HB4⟩
            case measure => simp [intOf]; omega
          · obtain rfl : i = v.nt := by omega
            go_wp2_with fail
            refine (bstring_any HBT.out hgt).mono ?_
            rintro e w3 ⟨rfl, hb3⟩
            have HB3 := Lib.hid (HB.out.trans (((HB1.out.trans ((HBW3.out.trans hb3).mono HB1.out.size))).mono HB.out.size))
            clear hb3
            go_wp2
            go_ret
            exact ⟨ret_str (by rw [HM.out, lt.out]), HB3.out⟩

end Go.Proofs.YthamndmfenpniaaGreatDoor
