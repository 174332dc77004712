/- HasCircle of the program. -/
import Derived.Test.YtklbjnphfpjgeaaGraph
import Derived.Test.YtklbjnphfpjgeaaEdgeS
import Derived.Test.YtklbjnphfpjgeaaAdj
import Derived.Deep.RegionLaw
import Derived.Deep.LoopGhost
import Derived.Maps.RangeWalk
namespace Go.Proofs.Ytklbjnphfpjgeaa
open Go.RowKit

set_option maxHeartbeats 400000 in
theorem clone_any (a : Option Addr) (n c : Nat) (xs : List Int) (w : World) (hn : n ≤ 1099511627776) (hl : xs.length = n) (hnil : a = none → n = 0 ∧ c = 0) (h1 : Rd w a (ints xs)) :
    Calls Try.prog 30 #[.slice a n c] w fun e w' => ∃ a' c', e = .returned (.slice a' n c') ∧ w'.ownsRow w.heap.size 3 1 (.slice a' n c') n (ints xs) ∧ Below w.heap.size w w' := by
  have hq := fun (w : World) (a : Option Addr) (n c : Nat) => Lib.run_eql_slice_nil (P := Try.prog) w 22 3 a n c 0 0 Try.underlying22
  cases a with
  | none =>
    obtain ⟨rfl, rfl⟩ := hnil rfl
    obtain rfl : xs = [] := List.eq_nil_of_length_eq_zero hl
    go_enter Try.func30, Try.ntmps30
    go_wp2
    go_ret
    exact ⟨none, 0, rfl, World.ownsRow_nil _ _ _ _, Below.refl _ _⟩
  | some ad =>
    have HL := Lib.hid hl
    have h2 := h1.below ((Below.refl _ _).alloc (Nat.le_refl _) (.cells #[] 3))
    clear hl hnil
    go_enter Try.func30, Try.ntmps30
    go_wp2_with (at_builtin; refine wpList_append_src rfl _ _ 22 rfl Try.underlying22 info_int rfl (by decide) rfl (owns_empty w 3 1) rfl (by simp) (by simp [HL.out]) h2 (ints_one xs) (by omega) (by decide) (by simp) ?_; intro a3 c3 w3 hown3 hgr3)
    go_wp2
    go_ret
    refine ⟨_, _, rfl, ?_, ((Below.refl _ _).alloc (Nat.le_refl _) _).trans (below_of_grown hgr3 (by simp) (by simp [rowOf]))⟩
    simpa using hown3

theorem succs_succ (es : List (Int × Int)) (i : Nat) (hi : i < es.length) : succs (es.take (i + 1)) = fun k => if k = (es.getD i (0, 0)).1 then succs (es.take i) (es.getD i (0, 0)).1 ++ [(es.getD i (0, 0)).2] else succs (es.take i) k := by
  funext k
  have e : es.take (i + 1) = es.take i ++ [es.getD i (0, 0)] := by
    rw [List.take_add_one, List.getElem?_eq_getElem hi]; simp [List.getD, hi]
  unfold succs
  rw [e, List.filter_append, List.map_append]
  generalize es.getD i (0, 0) = y
  by_cases hk : k = y.1
  · simp [hk]
  · have h2 : ¬ y.1 = k := fun e => hk e.symm
    simp [hk, h2]
theorem succs_le (es : List (Int × Int)) (k : Int) : (succs es k).length ≤ es.length := by
  unfold succs; rw [List.length_map]; exact List.length_filter_le _ _

theorem zero_bool (w : World) : (zeroValue 4).run Try.prog w = .ok (.bool false) w := by kernel_rfl
theorem zero_ints (w : World) : (zeroValue 22).run Try.prog w = .ok (.slice none 0 0) w := by kernel_rfl

theorem circ_round {w wr w3 w4 : World} {L : List (Int × Value)} {es : List (Int × Int)} {k : Nat} {x : Int × Int} {v0 v1 : Value} {E : TypeId} (o o2 : Obj) (hk : k < es.length) (hx : x = es.getD k (0, 0))
    (hadj : AdjI wr w.heap.size (w.heap.size + 1) E L (succs (es.take k))) (hb : Below w.heap.size w wr) (hsz : w.heap.size + 1 ≤ wr.heap.size) (hv0 : v0 = atNil L x.1)
    (hown3 : w3.ownsRow (w.heap.size + 1) E 1 v1 ((succs (es.take k) x.1).length + 1) (ints (succs (es.take k) x.1) ++ [.int .i64 x.2])) (hgr3 : ((wr.alloc o).alloc o2).drew.grownBy w3 v0.ownBlock)
    (hloc3 : v1.ownBlock = v0.ownBlock ∨ v1.ownBlock = some ((wr.alloc o).alloc o2).drew.heap.size) (hm4 : MapI w4 w.heap.size (mput L x.1 v1)) (hg4 : w3.grownBy w4 (some w.heap.size)) :
    AdjI w4 w.heap.size (w.heap.size + 1) E (mput L x.1 v1) (succs (es.take (k + 1))) ∧ Below w.heap.size w w4 ∧ w.heap.size + 1 ≤ w4.heap.size := by
  have hg1 : wr.grownBy ((wr.alloc o).alloc o2).drew none := grown_trans (World.grownBy_alloc wr o none) (grown_trans (World.grownBy_alloc (wr.alloc o) o2 none) (grown_drew _ none))
  have hs1 := hg1.size
  have hs3 := hgr3.size
  have hs4 := hg4.size
  subst hv0
  refine ⟨?_, ?_, by omega⟩
  · rw [succs_succ es k hk, ← hx]
    exact hadj.step x.1 x.2 hg1 hown3 hgr3 hloc3 hm4 hg4
  · refine ((hb.trans (below_of_grown hg1 (by omega) (by simp))).trans (below_of_grown hgr3 (by omega) (fun g hg => ?_))).trans (below_of_grown hg4 (by omega) (fun g hg => by cases hg; exact Nat.le_refl _))
    have := ((hadj.at x.1).lt g hg).1
    omega

set_option maxHeartbeats 1000000 in
theorem implCircle_any (a : Option Addr) (n c : Nat) (es : List (Int × Int)) (w : World) (hn : n ≤ 1048576) (hl : es.length = n) (h1 : Rd w a (edges es)) :
    Calls Try.prog 21 #[.slice a n c] w fun e w' => e = .returned (.bool (circ es)) ∧ Below w.heap.size w w' := by
  have HL := Lib.hid hl
  clear hl
  have hmm := @run_makeMap Try.prog
  go_enter Try.func21, Try.ntmps21
  go_wp2
  go_loopw [13] (fun i wr => ∃ (k : Nat) (L : List (Int × Value)), k ≤ n ∧ i = .int .i64 k ∧ AdjI wr w.heap.size (w.heap.size + 1) 3 L (succs (es.take k)) ∧ Below w.heap.size w wr ∧ w.heap.size + 1 ≤ wr.heap.size) (fun i _ => n - (intOf i).toNat)
  case atStart => exact ⟨0, [], by omega, rfl, AdjI.made (by omega), (Below.refl _ _).alloc (Nat.le_refl _) _, by simp⟩
  case round =>
    obtain ⟨k, L, hk, rfl, hadj, hb, hsz⟩ := hrel
    by_cases hlt : k < n
    · obtain ⟨b1, o1, rfl, g1'⟩ := (h1.below hb).edge (by have := HL.out; omega)
      obtain ⟨g1a, g1b⟩ := g1' k (by have := HL.out; omega)
      obtain ⟨x, hx⟩ : ∃ x, x = es.getD k (0, 0) := ⟨_, rfl⟩
      rw [← hx] at g1a g1b
      have HX := Lib.hid hx
      clear g1' hx
      go_wp2_with fail
      obtain ⟨v0, hv0⟩ : ∃ v0, v0 = atNil L x.1 := ⟨_, rfl⟩
      have hat := hadj.at x.1
      rw [← hv0] at hat
      have hle := succs_le (es.take k) x.1
      rw [List.length_take] at hle
      have hlk1 : ∀ o, (Instr.lookup 50 (.map (some w.heap.size)) (.int .i64 x.1) false).run Try.prog (wr.alloc o).drew = .ok v0 (wr.alloc o).drew := fun o => by
        rw [hv0]; exact run_lookup_mapI Try.underlying50 Try.underlying3 zero_ints (hadj.1.below ((Below.refl _ _).alloc (Nat.le_refl _) o).drew) x.1
      have hlk2 : ∀ o o2, (Instr.lookup 50 (.map (some w.heap.size)) (.int .i64 x.1) false).run Try.prog ((wr.alloc o).alloc o2).drew = .ok v0 ((wr.alloc o).alloc o2).drew := fun o o2 => by
        rw [hv0]; exact run_lookup_mapI Try.underlying50 Try.underlying3 zero_ints (hadj.1.below (((Below.refl _ _).alloc (Nat.le_refl _) o).alloc (by simp) o2).drew) x.1
      have hnews : ∀ (o : Obj) (j : Nat) (u : Value), [Value.int .i64 x.2][j]? = some u → ((wr.alloc o).alloc (.cells #[.int .i64 x.2] 3)).drew.cell? ((⟨wr.heap.size + 1, 0, none⟩ : Addr).add j) = some u := fun o j u hj => by
        have := cell_one_new (wr.alloc o) (.int .i64 x.2) 3 j u hj
        simpa using this
      have hmW : ∀ o o2, MapI ((wr.alloc o).alloc o2).drew w.heap.size L := fun o o2 => hadj.1.below (((Below.refl _ _).alloc (Nat.le_refl _) o).alloc (by simp) o2).drew
      have hv0r : ∀ g, v0.ownBlock = some g → w.heap.size < g ∧ g < wr.heap.size := fun g hg => hat.lt g hg
      have hcx : ∀ o2, ((wr.alloc (.cells #[.int .i64 x.1, .int .i64 x.2] 42)).alloc o2).drew.cell? ⟨wr.heap.size, 0, none⟩ = some (.int .i64 x.1) := fun o2 => by
        show ((wr.alloc (.cells #[.int .i64 x.1, .int .i64 x.2] 42)).alloc o2).cell? ⟨wr.heap.size, 0, none⟩ = _
        rw [World.cell?_alloc_past _ _ _ (by simp), World.cell?_alloc_at _ _ _ _ rfl]; rfl
      have HC := Lib.hid hcx
      have HV := Lib.hid hv0
      have HN := Lib.hid hnews
      have HM := Lib.hid hmW
      have HR := Lib.hid hv0r
      have HLE := Lib.hid hle
      clear hv0 hnews hmW hv0r hle hcx
      have hu := fun w' L' h k v => run_update_mapI (P := Try.prog) (w := w') (B := w.heap.size) (L := L') Try.underlying50 Try.underlying3 h k v
      have HU := Lib.hid hu
      clear hu
      go_region_law (refine step_append_one rfl (.tmp 23) (.tmp 26) 22 rfl Try.underlying22 info_int rfl (by decide) rfl (((hat.alloc _).alloc _).drew) rfl rfl (HN.out _) (by simp [Value.oneCell']) (by have := HLE.out; omega) (by decide) (by simp; omega) ?_; intro v1 w3 hown3 hgr3 hloc3; have hx3 := hgr3.cell (HC.out _) (fun e => by have := HR.out _ e.symm; simp at this); obtain ⟨w4, hrun4, hm4, hg4, hs4⟩ := HU.out w3 L ((HM.out _ _).grown hgr3 (fun e => by have := HR.out _ e; omega)) x.1 v1)
      all_goals
        go_wp2
        go_roundw
        case rel =>
          obtain ⟨r1, r2, r3⟩ := circ_round _ _ (by have := HL.out; omega) HX.out hadj hb hsz HV.out hown3 hgr3 hloc3 hm4 hg4
          exact ⟨k + 1, _, by omega, by go_num, r1, r2, r3⟩
        case measure => simp [intOf]; omega
    · have hkn : k = n := by omega
      subst hkn
      have hS : succs (es.take k) = succs es := by rw [List.take_of_length_le (by have := HL.out; omega)]
      rw [hS] at hadj
      clear hS hlt hk
      go_wp2_with (at_range; refine wpList_range_mapI rfl _ rfl Try.underlying50 rfl hadj.1 ?_; intro w0 hit0 hg0 hs0)
      go_frame
      obtain ⟨r, hr⟩ : ∃ r, r = wr.heap.size := ⟨_, rfl⟩
      rw [← hr] at hit0 hs0
      have hrow : ∀ q v g, mget L q = some v → v.ownBlock = some g → g < r := fun q v g hq hg => by rw [hr]; exact ((hadj.2.2.2.1 q v hq).2.lt g hg).2
      have HROW := Lib.hid hrow
      have hBr : w.heap.size + 1 ≤ r := by omega
      have hadj0 := hadj.grown hg0 (by simp) (by simp)
      have hb0 := hb.trans (below_of_grown hg0 (by omega) (by simp))
      rw [← hr]
      have HLk := Lib.hid hr
      clear hadj hg0 hb hsz hrow hr
      go_loopg [31] (L.length) (fun q _ wr => ∃ seen, q + seen.length = L.length ∧ IterI wr w.heap.size r L seen ∧ AdjI wr w.heap.size (w.heap.size + 1) 3 L (succs es) ∧ Below w.heap.size w wr ∧ r < wr.heap.size ∧ Hid (∀ f ∈ seen, ¬ Path es f f))
      case atStart => exact ⟨[], by simp, hit0, hadj0, hb0, by omega, Lib.hid (by simp)⟩
      case round =>
        obtain ⟨seen, hq, hit, hadj, hb, hsz, hno⟩ := hrel
        obtain ⟨wo, hwo⟩ : ∃ wo : World, wo = wr := ⟨_, rfl⟩
        subst hwo
        obtain ⟨q, hqq⟩ : ∃ q, q = gk := ⟨_, rfl⟩
        subst hqq
        go_wp2_with (at_next; refine wpList_next_mapI rfl _ rfl rfl hit ?_ ?_)
        · intro hall
          have hres : ¬ Circ es := by
            rintro ⟨u, hu⟩
            obtain ⟨x, hx⟩ := hu.first
            have hm : mget L u ≠ none := fun e => by
              have := hadj.2.2.1 u e
              have h2 := mem_succs.2 hx
              rw [this] at h2; simp at h2
            have hk : u ∈ L.map Prod.fst := Classical.byContradiction fun h => hm ((mget_none L u).2 h)
            obtain ⟨p, hp, e⟩ := List.mem_map.1 hk
            exact hno.out u (e ▸ hall p.1 p.2 hp) hu
          have HR := Lib.hid (circ_false hres)
          clear hres hall
          go_wp2
          go_ret
          exact ⟨ret_bool HR.out.symm, hb⟩
        · intro f vf w1 hns hget hit1 hg1 hs1 hent
          have hadj1 := hadj.grown hg1 (by simp; omega) (fun q v g hqv hg e => by cases e; have := HROW.out q v _ hqv hg; omega)
          have hb1 := hb.trans (below_of_grown hg1 (by omega) (by simp; omega))
          obtain ⟨a1, c1, hv1⟩ := owns_slice (hadj1.at f)
          have hon1 := hadj1.at f
          rw [hv1] at hon1
          have hsl := succs_le es f
          have HV := Lib.hid hv1
          have HSL := Lib.hid hsl
          have HNS := Lib.hid hns
          clear hit hadj hb hg1 hv1 hsl hns
          go_wp2_with (at_lookup; refine wpList_lookup_mapV rfl _ _ rfl Try.underlying50 Try.underlying3 zero_ints rfl (hadj1.1.below ((Below.refl _ _).alloc (Nat.le_refl _) _)) rfl HV.out ?_)
          refine (clone_any a1 _ c1 (succs es f) _ (by have := HSL.out; have := HL.out; omega) rfl (owns_nil hon1) (Rd.of_owns (hon1.alloc _))).mono ?_
          rintro e w2 ⟨a2, c2, rfl, hon2, b2⟩
          have ba : Below w1.heap.size w1 (w1.alloc (.map #[] 0)) := (Below.refl _ _).alloc (Nat.le_refl _) _
          have hm2 := (MapI.made w1).below b2
          have hit2 := (hit1.below ba).below b2
          have hadj2 := (hadj1.below ba).below b2
          have hb2 := (hb1.trans (ba.mono hb1.size)).trans (b2.mono (by simp; have := hb1.size; omega))
          have hs2 := b2.size
          simp only [World.size_alloc, hs1] at hs2 hon2
          rw [hs1] at hm2
          clear hit1 hadj1 hb1 hon1 b2 ba
          go_wp2_with fail
          go_loopg [8] ((succs es f).length + fresh es []) (fun m v8 wr => ∃ (td : List Int) (nt : Nat) (at' : Option Addr) (ct : Nat) (M : List (Int × Value)), v8 = .slice at' nt ct ∧ Hid (td.length = nt) ∧ m = nt + fresh es (M.map Prod.fst) ∧ m ≤ k + k ∧
              wr.ownsRow (wo.heap.size + 1) 3 1 (.slice at' nt ct) nt (ints td) ∧ MapI wr wo.heap.size M ∧ Hid (∀ q v, mget M q = some v → v = .bool true) ∧ Hid (Search es f td (M.map Prod.fst)) ∧
              IterI wr w.heap.size r L (seen ++ [f]) ∧ AdjI wr w.heap.size (w.heap.size + 1) 3 L (succs es) ∧ Below w.heap.size w wr ∧ wo.heap.size + 1 ≤ wr.heap.size)
          case atStart => exact ⟨succs es f, _, a2, c2, [], rfl, Lib.hid rfl, rfl, by have := HSL.out; have := HL.out; have := fresh_le es []; omega, hon2, hm2, Lib.hid (by simp [mget]), Lib.hid (Search.start es f), hit2, hadj2, hb2, hs2⟩
          case round =>
            obtain ⟨td, nt, at', ct, M, rfl, hlt, hm, hmk, hon, hM, hMv, hS, hit, hadj, hb, hsz⟩ := hrel
            by_cases hz : nt = 0
            · subst hz
              have htd : td = [] := List.eq_nil_of_length_eq_zero hlt.out
              subst htd
              have hno' : Hid (∀ g ∈ seen ++ [f], ¬ Path es g g) := Lib.hid (fun g hg => by
                rcases List.mem_append.1 hg with h | h
                · exact hno.out g h
                · simp only [List.mem_singleton] at h; rw [h]; exact hS.out.none)
              have hle := hit.le
              simp only [List.length_append, List.length_cons, List.length_nil] at hle
              have HLE := Lib.hid hle
              clear hle hS hM hon
              go_wp2
              go_roundg (q - 1)
              case measure => have := HLE.out; omega
              case rel => exact ⟨seen ++ [f], by have := HLE.out; simp; omega, hit, hadj, hb, by have := HLk.out; omega, hno'⟩
            · obtain ⟨j, rfl⟩ : ∃ j, nt = j + 1 := ⟨nt - 1, by omega⟩
              obtain ⟨g, rfl, hgB, hgl⟩ := owns_at hon (by omega)
              obtain ⟨x, hx⟩ : ∃ x, x = td.getD j 0 := ⟨_, rfl⟩
              have hcell : wr.cell? ⟨g, j, none⟩ = some (.int .i64 x) := by
                rw [hon.cellAt j (by omega), hx]
                have := hlt.out
                simp [ints, List.getD, show j < td.length by omega]
              have hsplit : td = td.take j ++ [x] := by
                have := take_succ_int td j (by have := hlt.out; omega)
                rw [List.take_of_length_le (by have := hlt.out; omega)] at this
                rw [hx]; exact this
              have hon' := owns_take hon j (by omega)
              rw [Nat.mul_one] at hon'
              have e1 : (ints td).take j = ints (td.take j) := by simp [ints]
              rw [e1] at hon'
              obtain ⟨hcap, hcapm⟩ := owns_cap hon
              unfold maxLen at hcapm
              have HX := Lib.hid hx
              have HSP := Lib.hid hsplit
              have zb := zero_bool
              clear hx hsplit e1 hon
              by_cases hxf : x = f
              · subst hxf
                have hres : Circ es := hS.out.hit ((mem_split HSP.out x).2 (.inr rfl))
                have HRS := Lib.hid (circ_true hres)
                clear hres
                go_wp2
                go_ret
                exact ⟨ret_bool HRS.out.symm, hb⟩
              · have hxf' : (x == f) = false := by simpa using hxf
                have HXF := Lib.hid hxf
                clear hxf
                by_cases hmem : x ∈ M.map Prod.fst
                · have hg : (mget M x).getD (.bool false) = .bool true := by
                    cases hgm : mget M x with
                    | none => exact absurd hmem ((mget_none M x).1 hgm)
                    | some v => simp [hMv.out x v hgm]
                  have HG := Lib.hid hg
                  have HMEM := Lib.hid hmem
                  clear hg hmem
                  go_wp2_with (at_lookup; refine wpList_lookup_mapV rfl _ _ rfl Try.underlying51 Try.underlying3 zero_bool rfl hM rfl HG.out ?_)
                  go_roundg (j + fresh es (M.map Prod.fst))
                  case measure => omega
                  case rel => exact ⟨td.take j, j, _, ct, M, rfl, Lib.hid (by have := hlt.out; simp; omega), rfl, by omega, hon', hM, hMv, Lib.hid (hS.out.old HSP.out HMEM.out), hit, hadj, hb, hsz⟩
                · have hg : (mget M x).getD (.bool false) = .bool false := by rw [(mget_none M x).2 hmem]; rfl
                  have HG := Lib.hid hg
                  have hM' : ∀ v, v ∈ (mput M x (.bool true)).map Prod.fst ↔ v = x ∨ v ∈ M.map Prod.fst := fun v => mem_keys_put M x v (.bool true)
                  have HM' := Lib.hid hM'
                  have hfr := fresh_new es hmem hM'
                  have HFR := Lib.hid hfr
                  have hSn := hS.out.new HSP.out (by have := HXF.out; simpa using this) hM'
                  have HSN := Lib.hid hSn
                  have hMv' : ∀ q v, mget (mput M x (.bool true)) q = some v → v = .bool true := fun q v h => by
                    by_cases e : q = x
                    · subst e; rw [mget_put_same] at h; cases h; rfl
                    · rw [mget_put_other _ _ _ _ e] at h; exact hMv.out q v h
                  have HMV := Lib.hid hMv'
                  obtain ⟨a5, c5, hv5⟩ := owns_slice (hadj.at x)
                  have HV5 := Lib.hid hv5
                  have hsl := succs_le es x
                  have HSL2 := Lib.hid hsl
                  have hA3 : ∀ w3, wr.grownBy w3 (some wo.heap.size) → AdjI w3 w.heap.size (w.heap.size + 1) 3 L (succs es) ∧ IterI w3 w.heap.size r L (seen ++ [f]) ∧ w3.ownsRow (wo.heap.size + 1) 3 1 (.slice (some ⟨g, 0, none⟩) j ct) j (ints (td.take j)) ∧ w3.ownsRow (w.heap.size + 1) 3 1 (.slice a5 (succs es x).length c5) (succs es x).length (ints (succs es x)) := fun w3 hg3 => by
                    have h3 := hadj.grown hg3 (by simp; omega) (fun q v g hqv hg e => by cases e; have := HROW.out q v _ hqv hg; omega)
                    have h5 := h3.at x
                    rw [hv5] at h5
                    exact ⟨h3, hit.grown hg3 (by simp; omega) (by simp; omega), owns_grown hon' hg3 (fun q e1 e2 => by cases e2; have := owns_row hon' _ e1; omega), h5⟩
                  have HA3 := Lib.hid hA3
                  clear hg hmem hM' hfr hSn hMv' hv5 hsl hMv hS hA3
                  go_wp2_with (first | (at_lookup; refine wpList_lookup_mapV rfl (.tmp 57) (.tmp 58) rfl Try.underlying51 Try.underlying3 zero_bool rfl hM rfl HG.out ?_) | (at_mapUpdate; refine wpList_update_mapI rfl _ _ _ rfl Try.underlying51 Try.underlying3 rfl hM rfl rfl ?_; intro w3 hM3 hg3 hs3; obtain ⟨hadj3, hit3, hon3, h53⟩ := HA3.out w3 hg3; clear hM hadj hit hon') | (at_lookup; refine wpList_lookup_mapV rfl (.tmp 64) (.tmp 65) rfl Try.underlying50 Try.underlying3 zero_ints rfl hadj3.1 rfl HV5.out ?_) | (at_builtin; refine wpList_append_src rfl (.tmp 63) (.tmp 66) 22 rfl Try.underlying22 info_int rfl (by decide) rfl hon3 rfl (owns_nil h53) (by simp) (Rd.of_owns h53) (ints_one _) (by have := HSL2.out; have := HL.out; omega) (by decide) (by omega) ?_; intro a6 c6 w4 hon4 hgr4))
                  go_roundg (j + (succs es x).length + fresh es ((mput M x (.bool true)).map Prod.fst))
                  case measure => have := HFR.out; omega
                  case rel =>
                    refine ⟨td.take j ++ succs es x, _, a6, c6, mput M x (.bool true), rfl, Lib.hid (by have := hlt.out; simp; omega), rfl, by have := HFR.out; omega, ?_, ?_, HMV, HSN, ?_, ?_, ?_, ?_⟩
                    · simpa [ints] using hon4
                    · exact hM3.grown hgr4 (fun e => by have := owns_row hon3 _ e; omega)
                    · exact hit3.grown hgr4 (fun e => by have := owns_row hon3 _ e; omega) (fun e => by have := owns_row hon3 _ e; omega)
                    · exact hadj3.grown hgr4 (fun e => by have := owns_row hon3 _ e; omega) (fun q v g' hqv hg e => by have := owns_row hon3 _ e; have := HROW.out q v _ hqv hg; omega)
                    · exact (hb.trans (below_of_grown hg3 (by omega) (fun q e => by cases e; omega))).trans (below_of_grown hgr4 (by omega) (fun q e => by have := owns_row hon3 _ e; omega))
                    · have := hgr4.size; omega

end Go.Proofs.Ytklbjnphfpjgeaa
