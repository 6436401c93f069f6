/- The store's laws: few, state. -/
import Derived.Test.YtejjofjhcgdedaaActQ
import Derived.Test.YtejjofjhcgdedaaStoL
namespace Go.Proofs.Ytejjofjhcgdedaa
set_option linter.unusedSimpArgs false
set_option linter.unusedVariables false
open Go.RowKit
open Sha
attribute [local go_sem] steady steadyUpon Cls same_cell anyW by8
attribute [local irreducible] wpHead wpTree wpHeadR
/-- acts are few, their scars short -/
def FewA (ds : List Ac) : Prop := ds.length ≤ 40 ∧ ∀ i, i < ds.length → ∀ j, j < (gat ds i).ss.length → (gat (gat ds i).ss j).l ≤ 1000
def RetFewA (w : World) (ds : List Ac) (e : Ending) (w' : World) : Prop := ∃ t : Bool, e = .returned (.bool t) ∧ (t = true → FewA ds) ∧ Ext w w'
set_option maxRecDepth 100000 in
set_option maxHeartbeats 2000000 in
theorem stfew_any (A : Option Addr) (n c : Nat) (ds : List Ac) (w : World) (hL : AcL w A ds) (hn : ds.length = n) (hm : n ≤ maxLen) :
    Calls Try.prog 33 #[.slice A n c] w (RetFewA w ds) := by
  have Hn := hide hn
  have HL := hide hL
  have hm9 : n ≤ 9223372036854775807 := by unfold maxLen at hm; omega
  clear hn hL hm
  go_enter Try.func33, Try.ntmps33
  go_wp2_with fail
  go_loopw [10, 3] (fun i v wr => ∃ (k t : Nat), k ≤ n ∧ k ≤ 40 ∧ t ≤ 200 ∧ i = .int .i64 (k : Int) ∧ v = .int .i64 (t : Int) ∧ Hid (∀ i, i < k → ∀ j, j < (gat ds i).ss.length → (gat (gat ds i).ss j).l ≤ 1000) ∧ Ext w wr) (fun i _ _ => n - (Go.RowKit.intOf i).toNat)
  case atStart => exact ⟨0, 0, Nat.zero_le _, by omega, by omega, rfl, rfl, hide (fun i hi => absurd hi (by omega)), Upd.refl _ _⟩
  case round =>
    obtain ⟨k, t, hk, hk6, ht, rfl, rfl, hF, hE⟩ := hrel
    by_cases hlt : k < n
    case neg =>
      obtain rfl : k = n := by omega
      have hltI : ¬ ((k : Int) < (k : Int)) := by omega
      go_wp2_with fail
      go_ret
      exact ⟨true, rfl, fun _ => ⟨by rw [Hn.out]; exact hk6, fun i hi => hF.out i (by rw [← Hn.out]; exact hi)⟩, hE⟩
    have hltI : (k : Int) < (n : Int) := by omega
    obtain ⟨b, o, rfl, hc, hok⟩ := HL.out k (by rw [Hn.out]; exact hlt)
    obtain ⟨d, hd⟩ : ∃ d, d = gat ds k := ⟨_, rfl⟩
    rw [← hd] at hc hok
    have Hd := hide hd
    have c0 : wr.cell? ⟨b, o + k * 4, none⟩ = some (.int .i64 d.kind) := hE.cellv (hc 0 (by omega))
    have c2 : wr.cell? ⟨b, o + k * 4 + 1, none⟩ = some (.int .i64 d.N) := hE.cellv (hc 1 (by omega))
    have c3 : wr.cell? ⟨b, o + k * 4 + 2, none⟩ = some (by8 d.X) := hE.cellv (hc 2 (by omega))
    have c4 : wr.cell? ⟨b, o + k * 4 + 3, none⟩ = some (.slice d.A d.l d.c) := hE.cellv (hc 3 (by omega))
    unfold by8 at c3
    have hlen := hok.len
    have hl9 : d.l ≤ 9223372036854775807 := by have h1 := hok.cap; have h2 := hok.max; unfold maxLen at h2; omega
    have HS := hide hok.scars
    obtain ⟨dl, hdl⟩ : ∃ z, z = d.l := ⟨_, rfl⟩
    obtain ⟨dA, hdA⟩ : ∃ z, z = d.A := ⟨_, rfl⟩
    rw [← hdl, ← hdA] at c4
    rw [← hdl] at hl9 hlen
    have HdA := hide hdA
    have Hlen := hide hlen
    clear hdA
    have HE := hide hE
    clear hd hc hok hE hlen hdl
    by_cases h40 : 40 ≤ k
    · have h40I : (40 : Int) ≤ (k : Int) := by omega
      by_cases hd1 : dl ≤ 100
      · have hd1I : (dl : Int) ≤ 100 := by omega
        go_wp2_with fail
        go_ret
        exact ⟨false, rfl, fun h => Bool.noConfusion h, HE.out.trans (by repeat (first | (with_reducible exact Upd.refl _ _) | (with_reducible assumption) | (refine Upd.setCell ?_ (.inr (by first | exact Nat.le_refl _ | (dsimp only; omega) | (simp; done) | (simp; omega))) _) | (with_reducible refine Upd.alloc ?_ _) | (with_reducible refine Upd.drew ?_) | (with_reducible refine Upd.trans ?_ (by with_reducible assumption))))⟩
      · have hd1I : ¬ (dl : Int) ≤ 100 := by omega
        go_wp2_with fail
        go_ret
        exact ⟨false, rfl, fun h => Bool.noConfusion h, HE.out.trans (by repeat (first | (with_reducible exact Upd.refl _ _) | (with_reducible assumption) | (refine Upd.setCell ?_ (.inr (by first | exact Nat.le_refl _ | (dsimp only; omega) | (simp; done) | (simp; omega))) _) | (with_reducible refine Upd.alloc ?_ _) | (with_reducible refine Upd.drew ?_) | (with_reducible refine Upd.trans ?_ (by with_reducible assumption))))⟩
    have h40I : ¬ (40 : Int) ≤ (k : Int) := by omega
    by_cases hd1 : dl ≤ 100
    · have hd1I : (dl : Int) ≤ 100 := by omega
      by_cases h200 : 200 < t + dl
      · have h200I : (200 : Int) < (t : Int) + (dl : Int) := by omega
        go_wp2_with fail
        go_ret
        exact ⟨false, rfl, fun h => Bool.noConfusion h, HE.out.trans (by repeat (first | (with_reducible exact Upd.refl _ _) | (with_reducible assumption) | (refine Upd.setCell ?_ (.inr (by first | exact Nat.le_refl _ | (dsimp only; omega) | (simp; done) | (simp; omega))) _) | (with_reducible refine Upd.alloc ?_ _) | (with_reducible refine Upd.drew ?_) | (with_reducible refine Upd.trans ?_ (by with_reducible assumption))))⟩
      have h200I : ¬ (200 : Int) < (t : Int) + (dl : Int) := by omega
      go_wp2_with fail
      refine name_wx (fun Z hZ => ?_)
      have hEZ : Ext w Z := by rw [hZ]; exact HE.out.trans (by repeat (first | (with_reducible exact Upd.refl _ _) | (with_reducible assumption) | (refine Upd.setCell ?_ (.inr (by first | exact Nat.le_refl _ | (dsimp only; omega) | (simp; done) | (simp; omega))) _) | (with_reducible refine Upd.alloc ?_ _) | (with_reducible refine Upd.drew ?_) | (with_reducible refine Upd.trans ?_ (by with_reducible assumption))))
      have HEZ := hide hEZ
      clear hEZ c0 c2 c3 c4 hZ
      go_loopw [30] (fun j wx => ∃ q : Nat, q ≤ dl ∧ j = .int .i64 (q : Int) ∧ Hid (∀ j, j < q → (gat d.ss j).l ≤ 1000) ∧ Ext w wx) (fun j _ => dl - (Go.RowKit.intOf j).toNat)
      case atStart => exact ⟨0, Nat.zero_le _, rfl, hide (fun i hi => absurd hi (by omega)), HEZ.out⟩
      case round =>
        obtain ⟨q, hq, rfl, hF2, hE2⟩ := hrel
        by_cases hltq : q < dl
        case neg =>
          obtain rfl : dl = q := by omega
          have hltqI : ¬ ((dl : Int) < (dl : Int)) := by omega
          go_wp2_with fail
          go_roundw
          case rel =>
            refine ⟨k + 1, t + dl, by omega, by omega, by omega, by go_num, by go_num, hide (fun i hi => ?_), hE2⟩
            by_cases hik : i < k
            · exact hF.out i hik
            · obtain rfl : i = k := by omega
              rw [← Hd.out, Hlen.out]
              exact hF2.out
          case measure => simp [Go.RowKit.intOf]; omega
        have hltqI : (q : Int) < (dl : Int) := by omega
        obtain ⟨b2, o2, hA2, e0, e1, hok2⟩ := (HS.out.ext hE2) q (by rw [Hlen.out]; exact hltq)
        obtain ⟨s, hs⟩ : ∃ s, s = gat d.ss q := ⟨_, rfl⟩
        rw [← hs] at e0 e1 hok2
        have hsl9 : s.l ≤ 9223372036854775807 := by have h1 := hok2.cap; have h2 := hok2.max; unfold maxLen at h2; omega
        obtain ⟨sl, hsl⟩ : ∃ z, z = s.l := ⟨_, rfl⟩
        rw [← hsl] at e1 hsl9
        have Hs := hide (show sl = (gat d.ss q).l by rw [hsl, hs])
        have HE2 := hide hE2
        clear hs hok2 hsl hE2
        rw [← HdA.out] at hA2
        subst hA2
        by_cases hbig : 1000 < sl
        · have hbigI : (1000 : Int) < (sl : Int) := by omega
          go_wp2_with fail
          go_ret
          exact ⟨false, rfl, fun h => Bool.noConfusion h, HE2.out.trans (by repeat (first | (with_reducible exact Upd.refl _ _) | (with_reducible assumption) | (refine Upd.setCell ?_ (.inr (by first | exact Nat.le_refl _ | (dsimp only; omega) | (simp; done) | (simp; omega))) _) | (with_reducible refine Upd.alloc ?_ _) | (with_reducible refine Upd.drew ?_) | (with_reducible refine Upd.trans ?_ (by with_reducible assumption))))⟩
        · have hbigI : ¬ (1000 : Int) < (sl : Int) := by omega
          go_wp2_with fail
          go_roundw
          case rel =>
            refine ⟨q + 1, by omega, by go_num, hide (fun i hi => ?_), HE2.out.trans (by repeat (first | (with_reducible exact Upd.refl _ _) | (with_reducible assumption) | (refine Upd.setCell ?_ (.inr (by first | exact Nat.le_refl _ | (dsimp only; omega) | (simp; done) | (simp; omega))) _) | (with_reducible refine Upd.alloc ?_ _) | (with_reducible refine Upd.drew ?_) | (with_reducible refine Upd.trans ?_ (by with_reducible assumption))))⟩
            by_cases hik : i < q
            · exact hF2.out i hik
            · obtain rfl : i = q := by omega
              rw [← Hs.out]; omega
          case measure => simp [Go.RowKit.intOf]; omega
    · have hd1I : ¬ (dl : Int) ≤ 100 := by omega
      by_cases h200 : 200 < t + 100
      · have h200I : (200 : Int) < (t : Int) + (100 : Int) := by omega
        go_wp2_with fail
        go_ret
        exact ⟨false, rfl, fun h => Bool.noConfusion h, HE.out.trans (by repeat (first | (with_reducible exact Upd.refl _ _) | (with_reducible assumption) | (refine Upd.setCell ?_ (.inr (by first | exact Nat.le_refl _ | (dsimp only; omega) | (simp; done) | (simp; omega))) _) | (with_reducible refine Upd.alloc ?_ _) | (with_reducible refine Upd.drew ?_) | (with_reducible refine Upd.trans ?_ (by with_reducible assumption))))⟩
      have h200I : ¬ (200 : Int) < (t : Int) + (100 : Int) := by omega
      go_wp2_with fail
      refine name_wx (fun Z hZ => ?_)
      have hEZ : Ext w Z := by rw [hZ]; exact HE.out.trans (by repeat (first | (with_reducible exact Upd.refl _ _) | (with_reducible assumption) | (refine Upd.setCell ?_ (.inr (by first | exact Nat.le_refl _ | (dsimp only; omega) | (simp; done) | (simp; omega))) _) | (with_reducible refine Upd.alloc ?_ _) | (with_reducible refine Upd.drew ?_) | (with_reducible refine Upd.trans ?_ (by with_reducible assumption))))
      have HEZ := hide hEZ
      clear hEZ c0 c2 c3 c4 hZ
      go_loopw [30] (fun j wx => ∃ q : Nat, q ≤ dl ∧ j = .int .i64 (q : Int) ∧ Hid (∀ j, j < q → (gat d.ss j).l ≤ 1000) ∧ Ext w wx) (fun j _ => dl - (Go.RowKit.intOf j).toNat)
      case atStart => exact ⟨0, Nat.zero_le _, rfl, hide (fun i hi => absurd hi (by omega)), HEZ.out⟩
      case round =>
        obtain ⟨q, hq, rfl, hF2, hE2⟩ := hrel
        by_cases hltq : q < dl
        case neg =>
          obtain rfl : dl = q := by omega
          have hltqI : ¬ ((dl : Int) < (dl : Int)) := by omega
          go_wp2_with fail
          go_roundw
          case rel =>
            refine ⟨k + 1, t + 100, by omega, by omega, by omega, by go_num, by go_num, hide (fun i hi => ?_), hE2⟩
            by_cases hik : i < k
            · exact hF.out i hik
            · obtain rfl : i = k := by omega
              rw [← Hd.out, Hlen.out]
              exact hF2.out
          case measure => simp [Go.RowKit.intOf]; omega
        have hltqI : (q : Int) < (dl : Int) := by omega
        obtain ⟨b2, o2, hA2, e0, e1, hok2⟩ := (HS.out.ext hE2) q (by rw [Hlen.out]; exact hltq)
        obtain ⟨s, hs⟩ : ∃ s, s = gat d.ss q := ⟨_, rfl⟩
        rw [← hs] at e0 e1 hok2
        have hsl9 : s.l ≤ 9223372036854775807 := by have h1 := hok2.cap; have h2 := hok2.max; unfold maxLen at h2; omega
        obtain ⟨sl, hsl⟩ : ∃ z, z = s.l := ⟨_, rfl⟩
        rw [← hsl] at e1 hsl9
        have Hs := hide (show sl = (gat d.ss q).l by rw [hsl, hs])
        have HE2 := hide hE2
        clear hs hok2 hsl hE2
        rw [← HdA.out] at hA2
        subst hA2
        by_cases hbig : 1000 < sl
        · have hbigI : (1000 : Int) < (sl : Int) := by omega
          go_wp2_with fail
          go_ret
          exact ⟨false, rfl, fun h => Bool.noConfusion h, HE2.out.trans (by repeat (first | (with_reducible exact Upd.refl _ _) | (with_reducible assumption) | (refine Upd.setCell ?_ (.inr (by first | exact Nat.le_refl _ | (dsimp only; omega) | (simp; done) | (simp; omega))) _) | (with_reducible refine Upd.alloc ?_ _) | (with_reducible refine Upd.drew ?_) | (with_reducible refine Upd.trans ?_ (by with_reducible assumption))))⟩
        · have hbigI : ¬ (1000 : Int) < (sl : Int) := by omega
          go_wp2_with fail
          go_roundw
          case rel =>
            refine ⟨q + 1, by omega, by go_num, hide (fun i hi => ?_), HE2.out.trans (by repeat (first | (with_reducible exact Upd.refl _ _) | (with_reducible assumption) | (refine Upd.setCell ?_ (.inr (by first | exact Nat.le_refl _ | (dsimp only; omega) | (simp; done) | (simp; omega))) _) | (with_reducible refine Upd.alloc ?_ _) | (with_reducible refine Upd.drew ?_) | (with_reducible refine Upd.trans ?_ (by with_reducible assumption))))⟩
            by_cases hik : i < q
            · exact hF2.out i hik
            · obtain rfl : i = q := by omega
              rw [← Hs.out]; omega
          case measure => simp [Go.RowKit.intOf]; omega
theorem mod256_n8 (z : Int) : ∃ v : B8, z % 256 = n8 v := ⟨BitVec.ofNat 8 (z % 256).toNat, by
  have h1 := Int.emod_nonneg z (b := 256) (by decide)
  have h2 := Int.emod_lt_of_pos z (b := 256) (by decide)
  unfold n8
  rw [BitVec.toNat_ofNat, show (2 : Nat) ^ 8 = 256 from rfl]
  omega⟩
def RetSta (w : World) (e : Ending) (w' : World) : Prop := ∃ (A : Option Addr) (c : Nat) (bs : List B8) (n : Nat), e = .returned (.slice A n c) ∧ bs.length = n ∧ n < 300 ∧ Own w' w.heap.size 5 A c (bs.map by8) ∧ Ext w w'
set_option maxRecDepth 100000 in
set_option maxHeartbeats 4000000 in
theorem ststate_any (kind N xx : Int) (A : Option Addr) (l c : Nat) (w : World) :
    Calls Try.prog 34 #[.agg #[.int .i64 kind, .int .i64 N, .int .u8 xx, .slice A l c]] w (RetSta w) := by
  obtain ⟨K, hK, hK300⟩ := u64_modN N 300 (by decide)
  have hK2 : (IntKind.u64.wrap N).tmod 300 = (K : Int) := hK
  have hR1 : 1 * K ≤ 281474976710656 := by omega
  have hR2 : K ≤ maxLen := by unfold maxLen; omega
  clear hK
  go_enter Try.func34, Try.ntmps34
  go_wp2_with (at_make; go_must (refine wpList_mk _ _ _ Try.el8 rfl rfl K rfl rfl rfl rfl hR1 hR2 by8 rfl rfl (B := w.heap.size + 1) (by simp) ?_); rintro gb w3 hO rfl hU)
  obtain ⟨w1, hw1⟩ : ∃ w1, w1 = w.alloc (.cells #[.int .i64 kind, .int .i64 N, .int .u8 xx, .slice A l c] 65) := ⟨_, rfl⟩
  have hU1 : Ext w1 w3 := by rw [hw1]; exact hU
  have hE1 : Ext w w1 := by rw [hw1]; exact (Upd.refl _ _).alloc _
  have cx : w1.cell? ⟨w.heap.size, 2, none⟩ = some (.int .u8 xx) := by rw [hw1]; simp
  have hsz : w.heap.size + 1 = w1.heap.size := by rw [hw1]; simp
  have hO2 : Own w3 (w.heap.size + 1) 5 (some ⟨w.heap.size + 1, 0, none⟩) K ((List.replicate K (default : B8)).map by8) := by rw [← hw1, ← hsz] at hO; exact hO
  clear hw1 hU hO
  have HE1 := hide hE1
  have Hsz := hide hsz
  clear hE1 hsz
  go_loopw [13] (fun iv wr => ∃ (k : Nat) (bs : List B8), k ≤ K ∧ iv = .int .i64 (k : Int) ∧ bs.length = K ∧ Own wr (w.heap.size + 1) 5 (some ⟨w.heap.size + 1, 0, none⟩) K (bs.map by8) ∧ Ext w1 wr) (fun iv _ => K - (Go.RowKit.intOf iv).toNat)
  case atStart => exact ⟨0, List.replicate K default, Nat.zero_le _, rfl, List.length_replicate, hO2, hU1⟩
  case round =>
    clear hO2 hU1
    obtain ⟨k, bs, hk, rfl, hbl, hO, hU⟩ := hrel
    have c3 := hU.cellv cx
    have HO := hide hO
    have HU := hide hU
    have Hbl := hide hbl
    clear hO hU hbl
    by_cases hlt : k < K
    · obtain ⟨v, hv⟩ := mod256_n8 (xx + (k : Int))
      have hv1 : (xx + (k : Int) % 256) % 256 = n8 v := by rw [Int.add_emod_emod]; exact hv
      have Hv1 := hide hv1
      clear hv1
      go_wp2_with (refine wpList_store_own by8 one8 v rfl rfl Try.sz8 rfl (by first | rfl | (show Value.int .u8 ((xx + (k : Int) % 256) % 256) = by8 v; rw [Hv1.out]; rfl)) HO.out (by rw [Hbl.out]; exact hlt) ?_; intro w5 hO5 hU5)
      go_roundw
      case rel => exact ⟨k + 1, bs.set k v, hlt, by go_num, by rw [List.length_set]; exact Hbl.out, hO5, upd_new hU5 HU.out (fun i hi => by have := Hsz.out; have h2 : i = w.heap.size + 1 := hi; omega)⟩
      case measure => simp [Go.RowKit.intOf]; omega
    · obtain rfl : k = K := by omega
      go_wp2_with fail
      go_ret
      exact ⟨_, _, bs, _, rfl, Hbl.out, hK300, HO.out.mono (Nat.le_succ _), HE1.out.trans HU.out⟩
end Go.Proofs.Ytejjofjhcgdedaa
