/- The program's texts of numbers and of threads; what is shared, with its words. -/
import Derived.Test.YthamndmfenpniaaGreatDoorFmtImpl
import Derived.Test.YthamndmfenpniaaGreatDoorBaseD
import Derived.Lib.Join
namespace Go.Proofs.YthamndmfenpniaaGreatDoor
open Go.RowKit

/-- A builder that holds a text. -/
def Bld (w : World) (B b : Nat) (s : ByteArray) : Prop := Lib.IsBuilderF 68 5 B b (Lib.strCells s) w
theorem strCells_app (a b : ByteArray) : Lib.strCells (a ++ b) = Lib.strCells a ++ Lib.strCells b := by
  simp [Lib.strCells]
theorem bld_at_below {w w' : World} {B b : Nat} {p : Value} {bs : List Value} (h : Lib.BuilderAtF 68 5 B b p bs w) (hb : Below w.heap.size w w') : Lib.BuilderAtF 68 5 B b p bs w' := by
  obtain ⟨h1, v, h2, h3, h4⟩ := h
  refine ⟨h1, v, (hb.block b (Array.getElem?_eq_some_iff.1 h2).1).trans h2, ⟨h3.1, ?_⟩, h4⟩
  rcases h3.2 with hn | ⟨g, cap, cur, fz, hv, hB, hg, rest⟩
  · exact .inl hn
  · exact .inr ⟨g, cap, cur, fz, hv, hB, (hb.block g (Array.getElem?_eq_some_iff.1 hg).1).trans hg, rest⟩
theorem Bld.below {w w' : World} {B b : Nat} {s : ByteArray} (h : Bld w B b s) (hb : Below w.heap.size w w') : Bld w' B b s :=
  h.imp (fun h => bld_at_below h hb) (fun h => bld_at_below h hb)
theorem Bld.new (w : World) : Bld (w.alloc (.cells #[.pointer none, .slice none 0 0] 68)) w.heap.size w.heap.size ⟨#[]⟩ :=
  .inl (Lib.BuilderAtF.of ⟨Nat.le_refl _, .slice none 0 0, Blk.new _ _ _, ⟨rfl, .inl ⟨rfl, rfl⟩⟩, by simp [Value.ownBlock]⟩)
theorem blk_others {w w' : World} {g b : Nat} {cs : Array Value} {T : TypeId} (h : Blk w g cs T) (hk : Lib.OthersKept 5 (some b) w w') (hne : g ≠ b) (hT : T ≠ 5) : Blk w' g cs T :=
  hk g _ h (fun e => hne (Option.some.inj e)) (fun c fz e => by cases e; exact hT rfl)
theorem bwrite_any {w : World} {B b : Nat} {s : ByteArray} (x : ByteArray) (h : Bld w B b s) (hl : s.size + x.size ≤ 1099511627776) (hB : B ≤ w.heap.size) :
    Calls Tryz.prog 37 #[.pointer (some ⟨b, 0, none⟩), .string x] w fun e w' => e = .returned (.tuple #[.int .i64 x.size, .nilIface]) ∧ Bld w' B b (s ++ x) ∧ Below B w w' ∧ Lib.OthersKept 5 (some b) w w' := by
  refine (Tryz.Builder_WriteString_k B b _ x w h (by rw [Lib.strCells_length]; omega) hB).mono ?_
  rintro e w' ⟨rfl, h1, h2, h3⟩
  exact ⟨rfl, .inr (by rw [strCells_app]; exact h1), h2, h3⟩
theorem bstring_any {w : World} {B b : Nat} {s : ByteArray} (h : Bld w B b s) (hB : B ≤ w.heap.size) :
    Calls Tryz.prog 40 #[.pointer (some ⟨b, 0, none⟩)] w fun e w' => e = .returned (.string s) ∧ Below B w w' := by
  refine (Tryz.Builder_String_any_k B b s.data.toList w h hB).mono ?_
  rintro e w' ⟨rfl, -, h2, -⟩
  exact ⟨rfl, h2⟩

theorem listTo_word (word : ByteArray) (l : List Int) : ∀ k, listTo word l k = word ++ listTo ⟨#[]⟩ l k
  | 0 => by
    unfold listTo
    apply ByteArray.ext
    simp
  | k + 1 => by
    unfold listTo
    rw [listTo_word word l k]
    simp only [ByteArray.append_assoc]

set_option maxRecDepth 100000 in
set_option maxHeartbeats 2000000 in
theorem implNumbersText_any (a : Option Addr) (n c : Nat) (l : List Int) (w : World) (hL : Laid w) (hl : l.length = n) (hn : n ≤ 1000) (hr : Rd w a (ints l)) (hb : ∀ j, j < l.length → -99 ≤ l.getD j 0 ∧ l.getD j 0 ≤ 99) :
    Calls Tryz.prog 38 #[.slice a n c] w fun e w' => e = .returned (.string (listTo ⟨#[]⟩ l n)) ∧ Below w.heap.size w w' := by
  have HL := Lib.hid hl
  have HB := Lib.hid hb
  have B0 : Below w.heap.size w (w.alloc (.cells #[.pointer none, .slice none 0 0] 68)) := (Below.refl _ _).alloc (Nat.le_refl _) _
  have HBL := Lib.hid (Bld.new w)
  have HR := Lib.hid hr
  have HLD := Lib.hid hL
  have hI : ∀ j, j < l.length → InI64 (l.getD j 0) := fun j hj => by have := hb j hj; unfold InI64; omega
  have HI := Lib.hid hI
  have hs0 : (⟨#[]⟩ : ByteArray).size = 0 := rfl
  have hs1 : spB.size = 1 := rfl
  have HB0 := Lib.hid B0
  have hgs : w.heap.size ≤ (w.alloc (.cells #[.pointer none, .slice none 0 0] 68)).heap.size := B0.size
  obtain ⟨W0, hW0⟩ : ∃ W0 : World, W0 = (w.alloc (.cells #[.pointer none, .slice none 0 0] 68)) := ⟨_, rfl⟩
  rw [← hW0] at HBL HB0 hgs
  have HW0 := Lib.hid hW0
  clear hl hb hr hL hI B0 hW0
  go_enter Tryz.func38, Tryz.ntmps38
  go_wp2
  rw [← HW0.out]
  go_loopw [8] (fun vi wr => ∃ k : Nat, k ≤ n ∧ vi = .int .i64 k ∧ Hid (Bld wr w.heap.size w.heap.size (listTo ⟨#[]⟩ l k)) ∧ Hid (Below w.heap.size w wr)) (fun vi _ => n - (intOf vi).toNat)
  case atStart => exact ⟨0, by omega, rfl, HBL, HB0⟩
  case round =>
    obtain ⟨k, hk, rfl, hbk, hbw⟩ := hrel
    have hsz := listTo_size (word := ⟨#[]⟩) HI.out k (by have := HL.out; omega)
    have hgr : w.heap.size ≤ wr.heap.size := hbw.out.size
    by_cases hlt : k < n
    · obtain ⟨b, o, rfl, hc⟩ := (HR.out.below hbw.out).int (by have := HL.out; omega)
      have g1 := hc k (by have := HL.out; omega)
      have hx0 := HB.out k (by have := HL.out; omega)
      obtain ⟨x, hx⟩ : ∃ x, x = l.getD k 0 := ⟨_, rfl⟩
      rw [← hx] at g1 hx0
      have hx2 := decI_size x (by omega) (by omega)
      have HX := Lib.hid hx
      have hld := HLD.out.below hbw.out
      have s1 := fun (W : World) => run_string_add_sum (P := Tryz.prog) (w := W) spB (decI x) (by omega)
      clear hc hx
      go_wp2_with fail
      refine (implItoa_any x _ hld (by omega) (by omega)).mono ?_
      rintro e w2 ⟨rfl, hb2⟩
      have HBK := Lib.hid (hbk.out.below hb2)
      have HB2 := Lib.hid (hbw.out.trans (hb2.mono hgr))
      have hgr2 : w.heap.size ≤ w2.heap.size := HB2.out.size
      have hss : (listTo ⟨#[]⟩ l k).size + (spB ++ decI x).size ≤ 1099511627776 := by rw [ByteArray.size_append]; omega
      clear hb2 hbk hbw
      go_wp2_with fail
      refine (bwrite_any (spB ++ decI x) HBK.out hss hgr2).mono ?_
      rintro e w3 ⟨rfl, hk3, hb3, -⟩
      have HK3 := Lib.hid hk3
      have HB3 := Lib.hid (HB2.out.trans hb3)
      clear hk3 hb3
      go_wp2
      go_roundw
      case rel => exact ⟨k + 1, by omega, by go_num, Lib.hid (by have := HK3.out; rw [HX.out] at this; unfold listTo; rw [ByteArray.append_assoc]; exact this), HB3⟩
      case measure => simp [intOf]; omega
    · obtain rfl : n = k := by omega
      go_wp2_with fail
      refine (bstring_any hbk.out hgr).mono ?_
      rintro e w2 ⟨rfl, hb2⟩
      have HB2 := Lib.hid (hbw.out.trans hb2)
      clear hb2
      go_wp2
      go_ret
      exact ⟨rfl, HB2.out⟩

def thingCells (P : Nat) : Array Value := #[.string semsB, .pointer (some ⟨P, 0, none⟩), .string groupsB, .pointer (some ⟨P, 1, none⟩), .string barriersB, .pointer (some ⟨P, 2, none⟩), .string roomsB, .pointer (some ⟨P, 3, none⟩)]
set_option maxRecDepth 100000 in
set_option maxHeartbeats 4000000 in
theorem things_any (P : Nat) (w : World) :
    Calls Tryz.prog 24 #[.pointer (some ⟨P, 0, none⟩)] w fun e w' => ∃ g : Nat, e = .returned (.slice (some ⟨g, 0, none⟩) 4 4) ∧ Blk w' g (thingCells P) 52 ∧ w.heap.size ≤ g ∧ Below w.heap.size w w' := by
  go_enter Tryz.func24, Tryz.ntmps24
  go_wp2
  refine wp_region_fresh 17 (by kernel_rfl) (by kernel_rfl) [fun dz uz wz => uz = .pointer (some ⟨P, 0, none⟩), fun dz uz wz => uz = .pointer (some ⟨P, 0, none⟩), fun dz uz wz => uz = .pointer (some ⟨P, 0, none⟩), fun dz uz wz => uz = .agg #[.string ⟨#[115, 101, 109, 115]⟩, .pointer (some ⟨P, 0, none⟩)], fun dz uz wz => uz = .pointer (some ⟨P, 0, none⟩), fun dz uz wz => uz = .pointer (some ⟨P, 0, none⟩), fun dz uz wz => uz = .pointer (some ⟨P, 1, none⟩), fun dz uz wz => uz = .agg #[.string ⟨#[103, 114, 111, 117, 112, 115]⟩, .pointer (some ⟨P, 1, none⟩)], fun dz uz wz => uz = .pointer (some ⟨P, 0, none⟩), fun dz uz wz => uz = .pointer (some ⟨P, 0, none⟩), fun dz uz wz => uz = .pointer (some ⟨P, 2, none⟩), fun dz uz wz => uz = .agg #[.string ⟨#[98, 97, 114, 114, 105, 101, 114, 115]⟩, .pointer (some ⟨P, 2, none⟩)], fun dz uz wz => uz = .pointer (some ⟨P, 0, none⟩), fun dz uz wz => uz = .pointer (some ⟨P, 0, none⟩), fun dz uz wz => uz = .pointer (some ⟨P, 3, none⟩), fun dz uz wz => uz = .agg #[.string ⟨#[114, 111, 111, 109, 115]⟩, .pointer (some ⟨P, 3, none⟩)], fun dz uz wz => ∃ gz : Nat, uz = .slice (some ⟨gz, 0, none⟩) 4 4 ∧ Blk wz gz (thingCells P) 52 ∧ w.heap.size ≤ gz] (fun i => match i with | _ => fun _ => none) (fun w' => Below w.heap.size w w') (Below.refl _ _).drew (stab_of ⟨fun _ _ _ _ _ h => h, fun _ _ _ _ _ h => h, fun _ _ _ _ _ h => h, fun _ _ _ _ _ h => h, fun _ _ _ _ _ h => h, fun _ _ _ _ _ h => h, fun _ _ _ _ _ h => h, fun _ _ _ _ _ h => h, fun _ _ _ _ _ h => h, fun _ _ _ _ _ h => h, fun _ _ _ _ _ h => h, fun _ _ _ _ _ h => h, fun _ _ _ _ _ h => h, fun _ _ _ _ _ h => h, fun _ _ _ _ _ h => h, fun _ _ _ _ _ h => h, fun _ _ _ _ hb ⟨g, e, h, hs⟩ => ⟨g, e, h.below hb, hs⟩, trivial⟩) ?_ ?_
  · simp only [List.take_succ_cons, List.take_zero]
    refine ⟨?_, ?_, ?_, ?_, ?_, ?_, ?_, ?_, ?_, ?_, ?_, ?_, ?_, ?_, ?_, ?_, ?_, trivial⟩
    · intro ρ w1 hG hfr hd
      have fc : ∀ z, ρ (.const z) = z := fun _ => hfr _ rfl
      have ff : ∀ z, ρ (.func z) = .func (.func z) #[] #[] := fun _ => hfr _ rfl
      have f0 : ρ (.tmp 0) = .pointer (some ⟨P, 0, none⟩) := hfr _ rfl
      refine gives_val (u := .pointer (some ⟨P, 0, none⟩)) (w' := w1) (by go_simp) ⟨Below.refl _ _, rfl, (fun _ hk => by cases hk), hG⟩
    · intro ρ w1 hG hfr hd
      have fc : ∀ z, ρ (.const z) = z := fun _ => hfr _ rfl
      have ff : ∀ z, ρ (.func z) = .func (.func z) #[] #[] := fun _ => hfr _ rfl
      obtain ⟨d0, -⟩ := hd
      have d0 : (ρ (.tmp 3)) = .pointer (some ⟨P, 0, none⟩) := d0
      refine gives_val (u := .pointer (some ⟨P, 0, none⟩)) (w' := w1) (by go_simp) ⟨Below.refl _ _, rfl, (fun _ hk => by cases hk), hG⟩
    · intro ρ w1 hG hfr hd
      have fc : ∀ z, ρ (.const z) = z := fun _ => hfr _ rfl
      have ff : ∀ z, ρ (.func z) = .func (.func z) #[] #[] := fun _ => hfr _ rfl
      obtain ⟨d0, -⟩ := hd
      have d0 : (ρ (.tmp 4)) = .pointer (some ⟨P, 0, none⟩) := d0
      refine gives_val (u := .pointer (some ⟨P, 0, none⟩)) (w' := w1) (by go_simp) ⟨Below.refl _ _, rfl, (fun _ hk => by cases hk), hG⟩
    · intro ρ w1 hG hfr hd
      have fc : ∀ z, ρ (.const z) = z := fun _ => hfr _ rfl
      have ff : ∀ z, ρ (.func z) = .func (.func z) #[] #[] := fun _ => hfr _ rfl
      obtain ⟨d0, -⟩ := hd
      have d0 : (ρ (.tmp 5)) = .pointer (some ⟨P, 0, none⟩) := d0
      refine gives_val (u := .agg #[.string ⟨#[115, 101, 109, 115]⟩, .pointer (some ⟨P, 0, none⟩)]) (w' := w1) (by go_simp) ⟨Below.refl _ _, rfl, (fun _ hk => by cases hk), hG⟩
    · intro ρ w1 hG hfr hd
      have fc : ∀ z, ρ (.const z) = z := fun _ => hfr _ rfl
      have ff : ∀ z, ρ (.func z) = .func (.func z) #[] #[] := fun _ => hfr _ rfl
      have f0 : ρ (.tmp 0) = .pointer (some ⟨P, 0, none⟩) := hfr _ rfl
      refine gives_val (u := .pointer (some ⟨P, 0, none⟩)) (w' := w1) (by go_simp) ⟨Below.refl _ _, rfl, (fun _ hk => by cases hk), hG⟩
    · intro ρ w1 hG hfr hd
      have fc : ∀ z, ρ (.const z) = z := fun _ => hfr _ rfl
      have ff : ∀ z, ρ (.func z) = .func (.func z) #[] #[] := fun _ => hfr _ rfl
      obtain ⟨d0, -⟩ := hd
      have d0 : (ρ (.tmp 7)) = .pointer (some ⟨P, 0, none⟩) := d0
      refine gives_val (u := .pointer (some ⟨P, 0, none⟩)) (w' := w1) (by go_simp) ⟨Below.refl _ _, rfl, (fun _ hk => by cases hk), hG⟩
    · intro ρ w1 hG hfr hd
      have fc : ∀ z, ρ (.const z) = z := fun _ => hfr _ rfl
      have ff : ∀ z, ρ (.func z) = .func (.func z) #[] #[] := fun _ => hfr _ rfl
      obtain ⟨d0, -⟩ := hd
      have d0 : (ρ (.tmp 8)) = .pointer (some ⟨P, 0, none⟩) := d0
      refine gives_val (u := .pointer (some ⟨P, 1, none⟩)) (w' := w1) (by go_simp) ⟨Below.refl _ _, rfl, (fun _ hk => by cases hk), hG⟩
    · intro ρ w1 hG hfr hd
      have fc : ∀ z, ρ (.const z) = z := fun _ => hfr _ rfl
      have ff : ∀ z, ρ (.func z) = .func (.func z) #[] #[] := fun _ => hfr _ rfl
      obtain ⟨d0, -⟩ := hd
      have d0 : (ρ (.tmp 9)) = .pointer (some ⟨P, 1, none⟩) := d0
      refine gives_val (u := .agg #[.string ⟨#[103, 114, 111, 117, 112, 115]⟩, .pointer (some ⟨P, 1, none⟩)]) (w' := w1) (by go_simp) ⟨Below.refl _ _, rfl, (fun _ hk => by cases hk), hG⟩
    · intro ρ w1 hG hfr hd
      have fc : ∀ z, ρ (.const z) = z := fun _ => hfr _ rfl
      have ff : ∀ z, ρ (.func z) = .func (.func z) #[] #[] := fun _ => hfr _ rfl
      have f0 : ρ (.tmp 0) = .pointer (some ⟨P, 0, none⟩) := hfr _ rfl
      refine gives_val (u := .pointer (some ⟨P, 0, none⟩)) (w' := w1) (by go_simp) ⟨Below.refl _ _, rfl, (fun _ hk => by cases hk), hG⟩
    · intro ρ w1 hG hfr hd
      have fc : ∀ z, ρ (.const z) = z := fun _ => hfr _ rfl
      have ff : ∀ z, ρ (.func z) = .func (.func z) #[] #[] := fun _ => hfr _ rfl
      obtain ⟨d0, -⟩ := hd
      have d0 : (ρ (.tmp 11)) = .pointer (some ⟨P, 0, none⟩) := d0
      refine gives_val (u := .pointer (some ⟨P, 0, none⟩)) (w' := w1) (by go_simp) ⟨Below.refl _ _, rfl, (fun _ hk => by cases hk), hG⟩
    · intro ρ w1 hG hfr hd
      have fc : ∀ z, ρ (.const z) = z := fun _ => hfr _ rfl
      have ff : ∀ z, ρ (.func z) = .func (.func z) #[] #[] := fun _ => hfr _ rfl
      obtain ⟨d0, -⟩ := hd
      have d0 : (ρ (.tmp 12)) = .pointer (some ⟨P, 0, none⟩) := d0
      refine gives_val (u := .pointer (some ⟨P, 2, none⟩)) (w' := w1) (by go_simp) ⟨Below.refl _ _, rfl, (fun _ hk => by cases hk), hG⟩
    · intro ρ w1 hG hfr hd
      have fc : ∀ z, ρ (.const z) = z := fun _ => hfr _ rfl
      have ff : ∀ z, ρ (.func z) = .func (.func z) #[] #[] := fun _ => hfr _ rfl
      obtain ⟨d0, -⟩ := hd
      have d0 : (ρ (.tmp 13)) = .pointer (some ⟨P, 2, none⟩) := d0
      refine gives_val (u := .agg #[.string ⟨#[98, 97, 114, 114, 105, 101, 114, 115]⟩, .pointer (some ⟨P, 2, none⟩)]) (w' := w1) (by go_simp) ⟨Below.refl _ _, rfl, (fun _ hk => by cases hk), hG⟩
    · intro ρ w1 hG hfr hd
      have fc : ∀ z, ρ (.const z) = z := fun _ => hfr _ rfl
      have ff : ∀ z, ρ (.func z) = .func (.func z) #[] #[] := fun _ => hfr _ rfl
      have f0 : ρ (.tmp 0) = .pointer (some ⟨P, 0, none⟩) := hfr _ rfl
      refine gives_val (u := .pointer (some ⟨P, 0, none⟩)) (w' := w1) (by go_simp) ⟨Below.refl _ _, rfl, (fun _ hk => by cases hk), hG⟩
    · intro ρ w1 hG hfr hd
      have fc : ∀ z, ρ (.const z) = z := fun _ => hfr _ rfl
      have ff : ∀ z, ρ (.func z) = .func (.func z) #[] #[] := fun _ => hfr _ rfl
      obtain ⟨d0, -⟩ := hd
      have d0 : (ρ (.tmp 15)) = .pointer (some ⟨P, 0, none⟩) := d0
      refine gives_val (u := .pointer (some ⟨P, 0, none⟩)) (w' := w1) (by go_simp) ⟨Below.refl _ _, rfl, (fun _ hk => by cases hk), hG⟩
    · intro ρ w1 hG hfr hd
      have fc : ∀ z, ρ (.const z) = z := fun _ => hfr _ rfl
      have ff : ∀ z, ρ (.func z) = .func (.func z) #[] #[] := fun _ => hfr _ rfl
      obtain ⟨d0, -⟩ := hd
      have d0 : (ρ (.tmp 16)) = .pointer (some ⟨P, 0, none⟩) := d0
      refine gives_val (u := .pointer (some ⟨P, 3, none⟩)) (w' := w1) (by go_simp) ⟨Below.refl _ _, rfl, (fun _ hk => by cases hk), hG⟩
    · intro ρ w1 hG hfr hd
      have fc : ∀ z, ρ (.const z) = z := fun _ => hfr _ rfl
      have ff : ∀ z, ρ (.func z) = .func (.func z) #[] #[] := fun _ => hfr _ rfl
      obtain ⟨d0, -⟩ := hd
      have d0 : (ρ (.tmp 17)) = .pointer (some ⟨P, 3, none⟩) := d0
      refine gives_val (u := .agg #[.string ⟨#[114, 111, 111, 109, 115]⟩, .pointer (some ⟨P, 3, none⟩)]) (w' := w1) (by go_simp) ⟨Below.refl _ _, rfl, (fun _ hk => by cases hk), hG⟩
    · intro ρ w1 hG hfr hd
      have fc : ∀ z, ρ (.const z) = z := fun _ => hfr _ rfl
      have ff : ∀ z, ρ (.func z) = .func (.func z) #[] #[] := fun _ => hfr _ rfl
      obtain ⟨d0, d1, d2, d3, -⟩ := hd
      have d0 : (ρ (.tmp 6)) = .agg #[.string ⟨#[115, 101, 109, 115]⟩, .pointer (some ⟨P, 0, none⟩)] := d0
      have d1 : (ρ (.tmp 10)) = .agg #[.string ⟨#[103, 114, 111, 117, 112, 115]⟩, .pointer (some ⟨P, 1, none⟩)] := d1
      have d2 : (ρ (.tmp 14)) = .agg #[.string ⟨#[98, 97, 114, 114, 105, 101, 114, 115]⟩, .pointer (some ⟨P, 2, none⟩)] := d2
      have d3 : (ρ (.tmp 18)) = .agg #[.string ⟨#[114, 111, 111, 109, 115]⟩, .pointer (some ⟨P, 3, none⟩)] := d3
      refine gives_val (u := .slice (some ⟨w1.heap.size, 0, none⟩) 4 4) (w' := w1.alloc (.cells (thingCells P) 52)) (by go_simp; rfl) ⟨(Below.refl _ _).alloc (Nat.le_refl _) _, ⟨_, rfl, Blk.new _ _ _, hG.size⟩, (fun _ hk => by cases hk), hG.alloc hG.size _⟩
  intro vs w2 hG hlen hall hap hbd
  obtain ⟨xv0, vs0, rfl, hl0⟩ := len_cons hlen
  obtain ⟨xv1, vs1, rfl, hl1⟩ := len_cons hl0
  obtain ⟨xv2, vs2, rfl, hl2⟩ := len_cons hl1
  obtain ⟨xv3, vs3, rfl, hl3⟩ := len_cons hl2
  obtain ⟨xv4, vs4, rfl, hl4⟩ := len_cons hl3
  obtain ⟨xv5, vs5, rfl, hl5⟩ := len_cons hl4
  obtain ⟨xv6, vs6, rfl, hl6⟩ := len_cons hl5
  obtain ⟨xv7, vs7, rfl, hl7⟩ := len_cons hl6
  obtain ⟨xv8, vs8, rfl, hl8⟩ := len_cons hl7
  obtain ⟨xv9, vs9, rfl, hl9⟩ := len_cons hl8
  obtain ⟨xv10, vs10, rfl, hl10⟩ := len_cons hl9
  obtain ⟨xv11, vs11, rfl, hl11⟩ := len_cons hl10
  obtain ⟨xv12, vs12, rfl, hl12⟩ := len_cons hl11
  obtain ⟨xv13, vs13, rfl, hl13⟩ := len_cons hl12
  obtain ⟨xv14, vs14, rfl, hl14⟩ := len_cons hl13
  obtain ⟨xv15, vs15, rfl, hl15⟩ := len_cons hl14
  obtain ⟨xv16, vs16, rfl, hl16⟩ := len_cons hl15
  obtain rfl := len_nil hl16
  clear hlen hl0 hl1 hl2 hl3 hl4 hl5 hl6 hl7 hl8 hl9 hl10 hl11 hl12 hl13 hl14 hl15 hl16
  simp only [List.take_succ_cons, List.take_zero, List.drop_succ_cons, List.drop_zero] at hall ⊢
  obtain ⟨t0', t1', t2', t3', t4', t5', t6', t7', t8', t9', t10', t11', t12', t13', t14', t15', t16', -⟩ := hall
  have hv0 : xv0 = .pointer (some ⟨P, 0, none⟩) := t0'
  have hv1 : xv1 = .pointer (some ⟨P, 0, none⟩) := t1'
  have hv2 : xv2 = .pointer (some ⟨P, 0, none⟩) := t2'
  have hv3 : xv3 = .agg #[.string ⟨#[115, 101, 109, 115]⟩, .pointer (some ⟨P, 0, none⟩)] := t3'
  have hv4 : xv4 = .pointer (some ⟨P, 0, none⟩) := t4'
  have hv5 : xv5 = .pointer (some ⟨P, 0, none⟩) := t5'
  have hv6 : xv6 = .pointer (some ⟨P, 1, none⟩) := t6'
  have hv7 : xv7 = .agg #[.string ⟨#[103, 114, 111, 117, 112, 115]⟩, .pointer (some ⟨P, 1, none⟩)] := t7'
  have hv8 : xv8 = .pointer (some ⟨P, 0, none⟩) := t8'
  have hv9 : xv9 = .pointer (some ⟨P, 0, none⟩) := t9'
  have hv10 : xv10 = .pointer (some ⟨P, 2, none⟩) := t10'
  have hv11 : xv11 = .agg #[.string ⟨#[98, 97, 114, 114, 105, 101, 114, 115]⟩, .pointer (some ⟨P, 2, none⟩)] := t11'
  have hv12 : xv12 = .pointer (some ⟨P, 0, none⟩) := t12'
  have hv13 : xv13 = .pointer (some ⟨P, 0, none⟩) := t13'
  have hv14 : xv14 = .pointer (some ⟨P, 3, none⟩) := t14'
  have hv15 : xv15 = .agg #[.string ⟨#[114, 111, 111, 109, 115]⟩, .pointer (some ⟨P, 3, none⟩)] := t15'
  have hv16 : ∃ gz : Nat, xv16 = .slice (some ⟨gz, 0, none⟩) 4 4 ∧ Blk w2 gz (thingCells P) 52 ∧ w.heap.size ≤ gz := t16'
  clear t0' t1' t2' t3' t4' t5' t6' t7' t8' t9' t10' t11' t12' t13' t14' t15' t16'
  clear hap hbd
  subst hv0 hv1 hv2 hv3 hv4 hv5 hv6 hv7 hv8 hv9 hv10 hv11 hv12 hv13 hv14 hv15
  simp only [putAll, Act.put, List.setIfInBounds_toArray, List.set_cons_succ, List.set_cons_zero]
  obtain ⟨gz, rfl, hk, hs⟩ := hv16
  go_wp2
  go_ret
  exact ⟨gz, rfl, hk, hs, hG⟩

def opTexts (l : List OpD) (k : Nat) : List Value := (l.take k).map fun o => Value.string (fmtOp o)
theorem opTexts_snoc (l : List OpD) (k : Nat) (hk : k < l.length) : opTexts l k ++ [.string (fmtOp (l.getD k noOp))] = opTexts l (k + 1) := by
  unfold opTexts
  rw [List.take_add_one, List.getElem?_eq_getElem hk, List.map_append]
  simp [List.getD, hk]
theorem opsTo_word (s : ByteArray) (l : List OpD) : ∀ k, opsTo s l k = s ++ opsTo ⟨#[]⟩ l k
  | 0 => by
    unfold opsTo
    apply ByteArray.ext
    simp
  | k + 1 => by
    unfold opsTo
    rw [opsTo_word s l k]
    split <;> simp only [ByteArray.append_assoc]
def sepB : ByteArray := ⟨#[44, 32]⟩
def joinB (xs : List ByteArray) : ByteArray := ⟨(Lib.join (xs.map (·.data.toList)) sepB.data.toList).toArray⟩
theorem joinTail_snoc (sep : List UInt8) (r : List (List UInt8)) (x : List UInt8) : Lib.joinTail sep (r ++ [x]) = Lib.joinTail sep r ++ (sep ++ x) := by
  simp [Lib.joinTail]
theorem take_op (l : List OpD) (k : Nat) (hk : k < l.length) : l.take (k + 1) = l.take k ++ [l.getD k noOp] := by
  rw [List.take_add_one, List.getElem?_eq_getElem hk]
  simp [List.getD, hk]
theorem opsTo_join (l : List OpD) : ∀ k, k + 1 ≤ l.length → opsTo ⟨#[]⟩ l (k + 1) = spB ++ joinB ((l.take (k + 1)).map fmtOp)
  | 0, h => by
    obtain ⟨o, r, rfl⟩ : ∃ o r, l = o :: r := by
      cases l with
      | nil => simp at h
      | cons o r => exact ⟨o, r, rfl⟩
    apply ByteArray.ext
    simp [opsTo, joinB, Lib.join_one, List.getD]
  | k + 1, h => by
    have ih := opsTo_join l k (by omega)
    rw [opsTo, if_pos (by omega), ih, take_op l (k + 1) (by omega)]
    obtain ⟨o, r, hor⟩ : ∃ o r, (l.take (k + 1)).map fmtOp = o :: r := by
      cases hl : (l.take (k + 1)).map fmtOp with
      | nil => 
        have : ((l.take (k + 1)).map fmtOp).length = 0 := by rw [hl]; rfl
        rw [List.length_map, List.length_take] at this
        omega
      | cons o r => exact ⟨o, r, rfl⟩
    rw [List.map_append, hor]
    apply ByteArray.ext
    simp [joinB, Lib.join_cons, joinTail_snoc, commaB, spB, sepB]
/-- The line of a thread. -/
def threadText (l : List OpD) : ByteArray := opsTo threadB l l.length
theorem threadText_size {l : List OpD} (hb : ∀ j, j < l.length → InI64 (l.getD j noOp).on ∧ InI64 (l.getD j noOp).arg) (h8 : l.length ≤ 8) : (threadText l).size ≤ 500 := by
  have := opsTo_size (s := threadB) hb l.length (Nat.le_refl _)
  have h : threadB.size = 6 := rfl
  unfold threadText
  omega

set_option maxRecDepth 100000 in
set_option maxHeartbeats 4000000 in
theorem formatThread_any (a : Option Addr) (n c : Nat) (l : List OpD) (w : World) (hL : Laid w) (hl : l.length = n) (hn : n ≤ 8) (hr : Rd w a (opsV l)) (hb : ∀ j, j < l.length → (1 ≤ (l.getD j noOp).kind ∧ (l.getD j noOp).kind ≤ 10) ∧ (-99 ≤ (l.getD j noOp).on ∧ (l.getD j noOp).on ≤ 99) ∧ (-99 ≤ (l.getD j noOp).arg ∧ (l.getD j noOp).arg ≤ 99)) :
    Calls Tryz.prog 39 #[.slice a n c] w fun e w' => e = .returned (.string (threadText l)) ∧ Below w.heap.size w w' := by
  have HL := Lib.hid hl
  have HB := Lib.hid hb
  have HR := Lib.hid hr
  have HLD := Lib.hid hL
  have HI : Hid (∀ j, j < l.length → InI64 (l.getD j noOp).on ∧ InI64 (l.getD j noOp).arg) := Lib.hid (fun j hj => by have := hb j hj; unfold InI64; omega)
  clear hl hb hr hL
  go_enter Tryz.func39, Tryz.ntmps39
  go_wp2
  go_loopw [3, 8] (fun vt vi wr => ∃ (k : Nat) (bi : Option Addr) (ci : Nat), k ≤ n ∧ vi = .int .i64 k ∧ vt = .slice bi k ci ∧ Hid (wr.ownsRow w.heap.size 9 1 (.slice bi k ci) k (opTexts l k)) ∧ Hid (Below w.heap.size w wr)) (fun _ vi _ => n - (intOf vi).toNat)
  case atStart => exact ⟨0, none, 0, by omega, rfl, rfl, Lib.hid ⟨rfl, .inl ⟨rfl, rfl⟩⟩, Lib.hid (Below.refl _ _)⟩
  case round =>
    obtain ⟨k, bi, ci, hk, rfl, rfl, HO, HBW⟩ := hrel
    have hgr : w.heap.size ≤ wr.heap.size := HBW.out.size
    by_cases hlt : k < n
    · obtain ⟨b, oo, rfl, hc⟩ := (HR.out.below HBW.out).op (by have := HL.out; omega)
      obtain ⟨g1, g2, g3⟩ := hc k (by have := HL.out; omega)
      have hx0 := HB.out k (by have := HL.out; omega)
      have hsn := opTexts_snoc l k (by have := HL.out; omega)
      obtain ⟨o, ho⟩ : ∃ o, o = l.getD k noOp := ⟨_, rfl⟩
      rw [← ho] at g1 g2 g3 hx0 hsn
      have HSN := Lib.hid hsn
      have HX0 := Lib.hid hx0
      clear hc ho hsn hx0
      have bA : Below wr.heap.size wr (wr.alloc (.cells #[.int .i64 o.kind, .int .i64 o.on, .int .i64 o.arg] 63)) := (Below.refl _ _).alloc (Nat.le_refl _) _
      have hld := HLD.out.below (HBW.out.trans (bA.mono hgr))
      have HOA := Lib.hid (owns_below HO.out bA)
      have HBA := Lib.hid (HBW.out.trans (bA.mono hgr))
      clear bA
      go_wp2_with fail
      refine (implFormatOp_any o _ hld HX0.out.1 HX0.out.2.1 HX0.out.2.2).mono ?_
      rintro e w2 ⟨rfl, hb2⟩
      have hown := owns_below HOA.out hb2
      have HB2 := Lib.hid (HBA.out.trans (hb2.mono HBA.out.size))
      have hgr2 : w.heap.size ≤ w2.heap.size := HB2.out.size
      have ONE : Hid (∀ u ∈ [Value.string (fmtOp o)], u.oneCell' = true) := Lib.hid (by intro u hu; simp at hu; rw [hu]; rfl)
      clear hb2
      go_wp2_with (at_builtin; refine wpList_append_sl (m := 1) (cm := 1) (news := [Value.string (fmtOp o)]) rfl (.tmp 12) (.tmp 15) 42 rfl Tryz.underlying42 info_str rfl (by decide) rfl hown rfl rfl rfl ONE.out (by omega) (by decide) hgr2 ?_; intro b5 c5 w5 hown5 hgr5; have HWN := Lib.hid hown; clear hown)
      have HO5 := Lib.hid hown5
      have HB5 := Lib.hid (HB2.out.trans (below_of_grown hgr5 hgr2 (fun q hq => (owns_row HWN.out q hq).1)))
      clear hown5 hgr5
      go_wp2
      go_roundw
      case rel => exact ⟨k + 1, b5, c5, by omega, by go_num, rfl, Lib.hid (by rw [← HSN.out]; exact HO5.out), HB5⟩
      case measure => simp [intOf]; omega
    · obtain rfl : n = k := by omega
      by_cases h0 : n = 0
      · have t0 : ((n : Int) == 0) = true := by simp; omega
        have HT : Hid (threadText l = threadB) := Lib.hid (by unfold threadText; rw [HL.out, h0]; rfl)
        clear h0
        go_wp2
        go_ret
        exact ⟨ret_str HT.out.symm, HBW.out⟩
      · have t0 : ((n : Int) == 0) = false := by simp; omega
        obtain ⟨m, hm⟩ : ∃ m, n = m + 1 := ⟨n - 1, by omega⟩
        have hjt : opsTo ⟨#[]⟩ l n = spB ++ joinB (l.map fmtOp) := by
          have := opsTo_join l m (by have := HL.out; omega)
          rw [← hm, List.take_of_length_le (by have := HL.out; omega)] at this
          exact this
        have hsz := threadText_size HI.out (by have := HL.out; omega)
        have hTT : threadText l = threadB ++ (spB ++ joinB (l.map fmtOp)) := by unfold threadText; rw [opsTo_word, HL.out, hjt]
        have hjs : (joinB (l.map fmtOp)).size ≤ 500 := by
          rw [hTT, ByteArray.size_append, ByteArray.size_append] at hsz; omega
        have hjl : (Lib.join ((l.map fmtOp).map (·.data.toList)) sepB.data.toList).length = (joinB (l.map fmtOp)).size := by simp [joinB, ByteArray.size]
        obtain ⟨g, rfl, -, hglt⟩ := owns_at HO.out (by omega)
        have HJ := Tryz.strings_Join g 0 ci (l.map fmtOp) sepB wr (fun j x hx => by
          rw [List.getElem?_map] at hx
          obtain ⟨o, ho, rfl⟩ := Option.map_eq_some_iff.1 hx
          have hj : j < l.length := (List.getElem?_eq_some_iff.1 ho).1
          rw [Nat.zero_add, HO.out.cellAt j (by have := HL.out; omega)]
          unfold opTexts
          rw [List.take_of_length_le (by have := HL.out; omega), List.getElem?_map, ho]
          rfl) hglt (by rw [List.length_map]; have := HL.out; omega) (by rw [List.length_map, HL.out]; exact (owns_cap HO.out).1) (by rw [hjl]; omega)
        rw [List.length_map, HL.out] at HJ
        have HTT := Lib.hid hTT
        have HJ9 := Lib.hid HJ
        have s1 := fun (W : World) => run_string_add_sum (P := Tryz.prog) (w := W) ⟨#[116, 104, 114, 101, 97, 100, 32]⟩ (joinB (l.map fmtOp)) (by have : (⟨#[116, 104, 114, 101, 97, 100, 32]⟩ : ByteArray).size = 7 := rfl; omega)
        clear hTT hjt hsz hjs hm h0 HJ hjl
        go_wp2_with fail
        refine HJ9.out.mono ?_
        rintro e w3 ⟨rfl, hb3⟩
        have HB3 := Lib.hid (HBW.out.trans (hb3.mono hgr))
        clear hb3
        rw [show (⟨(Lib.join ((l.map fmtOp).map (·.data.toList)) sepB.data.toList).toArray⟩ : ByteArray) = joinB (l.map fmtOp) from rfl]
        go_wp2
        go_ret
        exact ⟨ret_str (by rw [HTT.out]; apply ByteArray.ext; simp [threadB, spB]), HB3.out⟩

end Go.Proofs.YthamndmfenpniaaGreatDoor
