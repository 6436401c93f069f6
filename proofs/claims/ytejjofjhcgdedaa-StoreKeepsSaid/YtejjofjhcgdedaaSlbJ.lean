/- The slab's laws: Plain, few. -/
import Derived.Test.YtejjofjhcgdedaaSlbH
import Derived.Test.YtejjofjhcgdedaaSlbR
import Derived.Test.YtejjofjhcgdedaaScaQ
namespace Go.Proofs.Ytejjofjhcgdedaa
set_option linter.unusedSimpArgs false
set_option linter.unusedVariables false
open Go.RowKit
open Sha
attribute [local go_sem] steady steadyUpon Cls same_cell anyW by8
attribute [local irreducible] wpHead wpTree wpHeadR
/-- the first k of 64 bytes are x -/
def plK (x : B8) (k : Nat) : List B8 := (List.range 64).map fun i => if i < k then x else 0
theorem plK_step (x : B8) (k : Nat) (h : k < 64) : (plK x k).set k x = plK x (k + 1) := by
  apply List.ext_getElem?; intro j
  rw [List.getElem?_set]
  by_cases hj : k = j
  · subst hj
    simp [plK, h]
  · rw [if_neg hj]
    simp only [plK, List.getElem?_map]
    by_cases hjl : j < 64
    · simp only [List.getElem?_range hjl, Option.map_some]
      by_cases h3 : j < k
      · rw [if_pos h3, if_pos (by omega)]
      · rw [if_neg h3, if_neg (by omega)]
    · rw [List.getElem?_eq_none (by simp; omega)]
      rfl
theorem plK_all (x : B8) : plK x 64 = pl64 x := by
  refine List.ext_getElem (by simp [plK, pl64]) fun i h1 h2 => ?_
  have h3 : i < 64 := by simpa [plK] using h1
  simp only [plK, pl64, List.getElem_map, List.getElem_range, List.getElem_replicate]
  rw [if_pos h3]
theorem plK_zero (x : B8) : plK x 0 = zero64B := by
  refine List.ext_getElem (by simp [plK, zero64B]) fun i h1 h2 => ?_
  simp only [plK, zero64B, List.getElem_map, List.getElem_range, List.getElem_replicate]
  rw [if_neg (by omega)]
theorem plK_len (x : B8) (k : Nat) : (plK x k).length = 64 := by simp [plK]
/-- 64 bytes x in new memory -/
def RetPl (w : World) (x : B8) (e : Ending) (w' : World) : Prop := ∃ A c, e = .returned (.slice A 64 c) ∧ Own w' w.heap.size 5 A c ((pl64 x).map by8) ∧ Ext w w'
set_option maxRecDepth 100000 in
set_option maxHeartbeats 1000000 in
theorem splain_any (x : B8) (v : Value) (hv : v = by8 x) (w : World) : Calls Try.prog 12 #[v] w (RetPl w x) := by
  subst hv
  go_enter Try.func12, Try.ntmps12
  go_wp2_with (at_make; go_must (refine wpList_mk _ _ _ Try.el8 rfl rfl 64 rfl rfl rfl rfl (by decide) (by decide) by8 rfl rfl (Nat.le_refl _) ?_); rintro g w1 hO rfl hU)
  go_loopw [8] (fun i wr => ∃ k : Nat, k ≤ 64 ∧ i = .int .i64 k ∧ Own wr w.heap.size 5 (some ⟨w.heap.size, 0, none⟩) 64 ((plK x k).map by8) ∧ Ext w wr) (fun i _ => 64 - (Go.RowKit.intOf i).toNat)
  case atStart => exact ⟨0, by omega, rfl, by rw [plK_zero]; exact hO, hU⟩
  case round =>
    clear hO hU
    obtain ⟨k, hk, rfl, hO, hU⟩ := hrel
    have hO' := hide hO
    clear hO
    by_cases hlt : k < 64
    · go_wp2_with (refine wpList_store_own by8 one8 x rfl rfl Try.sz8 rfl rfl hO'.out (by rw [plK_len]; omega) ?_; intro w3 hO3 hU3)
      go_roundw
      case rel => exact ⟨k + 1, by omega, by go_num, by rw [plK_step x k hlt] at hO3; exact hO3, upd_new hU3 hU (fun i hi => Nat.le_of_eq hi.symm)⟩
      case measure => simp [Go.RowKit.intOf]; omega
    · obtain rfl : k = 64 := by omega
      clear hk hlt
      go_wp2_with fail
      go_ret
      exact ⟨_, _, rfl, by rw [← plK_all]; exact hO'.out, hU⟩
/-- deeds are few, their scars short -/
def FewD (ds : List Dee) : Prop := ds.length ≤ 60 ∧ ∀ i, i < ds.length → ∀ j, j < (gat ds i).ss.length → (gat (gat ds i).ss j).l ≤ 1000
def RetFewD (w : World) (ds : List Dee) (e : Ending) (w' : World) : Prop := ∃ t : Bool, e = .returned (.bool t) ∧ (t = true → FewD ds) ∧ Ext w w'
set_option maxRecDepth 100000 in
set_option maxHeartbeats 2000000 in
theorem sfew_any (A : Option Addr) (n c : Nat) (ds : List Dee) (w : World) (hL : DeeL w A ds) (hn : ds.length = n) (hm : n ≤ maxLen) :
    Calls Try.prog 19 #[.slice A n c] w (RetFewD w ds) := by
  have Hn := hide hn
  have HL := hide hL
  have hm9 : n ≤ 9223372036854775807 := by unfold maxLen at hm; omega
  clear hn hL hm
  go_enter Try.func19, Try.ntmps19
  go_wp2_with fail
  go_loopw [10, 3] (fun i v wr => ∃ (k t : Nat), k ≤ n ∧ k ≤ 60 ∧ t ≤ 200 ∧ i = .int .i64 (k : Int) ∧ v = .int .i64 (t : Int) ∧ Hid (∀ i, i < k → ∀ j, j < (gat ds i).ss.length → (gat (gat ds i).ss j).l ≤ 1000) ∧ Ext w wr) (fun i _ _ => n - (Go.RowKit.intOf i).toNat)
  case atStart => exact ⟨0, 0, Nat.zero_le _, by omega, by omega, rfl, rfl, hide (fun i hi => absurd hi (by omega)), Upd.refl _ _⟩
  case round =>
    obtain ⟨k, t, hk, hk6, ht, rfl, rfl, hF, hE⟩ := hrel
    by_cases hlt : k < n
    case neg =>
      obtain rfl : k = n := by omega
      have hltI : ¬ ((k : Int) < (k : Int)) := by omega
      go_wp2_with fail
      go_ret
      exact ⟨true, rfl, fun _ => ⟨by rw [Hn.out]; exact hk6, fun i hi => hF.out i (by rw [← Hn.out]; exact hi)⟩, hE⟩
    have hltI : (k : Int) < (n : Int) := by omega
    obtain ⟨b, o, rfl, hc, hok⟩ := HL.out k (by rw [Hn.out]; exact hlt)
    obtain ⟨d, hd⟩ : ∃ d, d = gat ds k := ⟨_, rfl⟩
    rw [← hd] at hc hok
    have Hd := hide hd
    have c0 : wr.cell? ⟨b, o + k * 5, none⟩ = some (.int .i64 d.kind) := hE.cellv (hc 0 (by omega))
    have c1 : wr.cell? ⟨b, o + k * 5 + 1, none⟩ = some (.int .i64 d.at_) := hE.cellv (hc 1 (by omega))
    have c2 : wr.cell? ⟨b, o + k * 5 + 2, none⟩ = some (.int .i64 d.N) := hE.cellv (hc 2 (by omega))
    have c3 : wr.cell? ⟨b, o + k * 5 + 3, none⟩ = some (by8 d.X) := hE.cellv (hc 3 (by omega))
    have c4 : wr.cell? ⟨b, o + k * 5 + 4, none⟩ = some (.slice d.A d.l d.c) := hE.cellv (hc 4 (by omega))
    unfold by8 at c3
    have hlen := hok.len
    have hl9 : d.l ≤ 9223372036854775807 := by have h1 := hok.cap; have h2 := hok.max; unfold maxLen at h2; omega
    have HS := hide hok.scars
    obtain ⟨dl, hdl⟩ : ∃ z, z = d.l := ⟨_, rfl⟩
    obtain ⟨dA, hdA⟩ : ∃ z, z = d.A := ⟨_, rfl⟩
    rw [← hdl, ← hdA] at c4
    rw [← hdl] at hl9 hlen
    have HdA := hide hdA
    have Hlen := hide hlen
    clear hdA
    have HE := hide hE
    clear hd hc hok hE hlen hdl
    by_cases h60 : 60 ≤ k
    · have h60I : (60 : Int) ≤ (k : Int) := by omega
      by_cases hd1 : dl ≤ 100
      · have hd1I : (dl : Int) ≤ 100 := by omega
        go_wp2_with fail
        go_ret
        exact ⟨false, rfl, fun h => Bool.noConfusion h, HE.out.trans (by repeat (first | (with_reducible exact Upd.refl _ _) | (with_reducible assumption) | (refine Upd.setCell ?_ (.inr (by first | exact Nat.le_refl _ | (dsimp only; omega) | (simp; done) | (simp; omega))) _) | (with_reducible refine Upd.alloc ?_ _) | (with_reducible refine Upd.drew ?_) | (with_reducible refine Upd.trans ?_ (by with_reducible assumption))))⟩
      · have hd1I : ¬ (dl : Int) ≤ 100 := by omega
        go_wp2_with fail
        go_ret
        exact ⟨false, rfl, fun h => Bool.noConfusion h, HE.out.trans (by repeat (first | (with_reducible exact Upd.refl _ _) | (with_reducible assumption) | (refine Upd.setCell ?_ (.inr (by first | exact Nat.le_refl _ | (dsimp only; omega) | (simp; done) | (simp; omega))) _) | (with_reducible refine Upd.alloc ?_ _) | (with_reducible refine Upd.drew ?_) | (with_reducible refine Upd.trans ?_ (by with_reducible assumption))))⟩
    have h60I : ¬ (60 : Int) ≤ (k : Int) := by omega
    by_cases hd1 : dl ≤ 100
    · have hd1I : (dl : Int) ≤ 100 := by omega
      by_cases h200 : 200 < t + dl
      · have h200I : (200 : Int) < (t : Int) + (dl : Int) := by omega
        go_wp2_with fail
        go_ret
        exact ⟨false, rfl, fun h => Bool.noConfusion h, HE.out.trans (by repeat (first | (with_reducible exact Upd.refl _ _) | (with_reducible assumption) | (refine Upd.setCell ?_ (.inr (by first | exact Nat.le_refl _ | (dsimp only; omega) | (simp; done) | (simp; omega))) _) | (with_reducible refine Upd.alloc ?_ _) | (with_reducible refine Upd.drew ?_) | (with_reducible refine Upd.trans ?_ (by with_reducible assumption))))⟩
      have h200I : ¬ (200 : Int) < (t : Int) + (dl : Int) := by omega
      go_wp2_with fail
      refine name_wx (fun Z hZ => ?_)
      have hEZ : Ext w Z := by rw [hZ]; exact HE.out.trans (by repeat (first | (with_reducible exact Upd.refl _ _) | (with_reducible assumption) | (refine Upd.setCell ?_ (.inr (by first | exact Nat.le_refl _ | (dsimp only; omega) | (simp; done) | (simp; omega))) _) | (with_reducible refine Upd.alloc ?_ _) | (with_reducible refine Upd.drew ?_) | (with_reducible refine Upd.trans ?_ (by with_reducible assumption))))
      have HEZ := hide hEZ
      clear hEZ c0 c1 c2 c3 c4 hZ
      go_loopw [30] (fun j wx => ∃ q : Nat, q ≤ dl ∧ j = .int .i64 (q : Int) ∧ Hid (∀ j, j < q → (gat d.ss j).l ≤ 1000) ∧ Ext w wx) (fun j _ => dl - (Go.RowKit.intOf j).toNat)
      case atStart => exact ⟨0, Nat.zero_le _, rfl, hide (fun i hi => absurd hi (by omega)), HEZ.out⟩
      case round =>
        obtain ⟨q, hq, rfl, hF2, hE2⟩ := hrel
        by_cases hltq : q < dl
        case neg =>
          obtain rfl : dl = q := by omega
          have hltqI : ¬ ((dl : Int) < (dl : Int)) := by omega
          go_wp2_with fail
          go_roundw
          case rel =>
            refine ⟨k + 1, t + dl, by omega, by omega, by omega, by go_num, by go_num, hide (fun i hi => ?_), hE2⟩
            by_cases hik : i < k
            · exact hF.out i hik
            · obtain rfl : i = k := by omega
              rw [← Hd.out, Hlen.out]
              exact hF2.out
          case measure => simp [Go.RowKit.intOf]; omega
        have hltqI : (q : Int) < (dl : Int) := by omega
        obtain ⟨b2, o2, hA2, e0, e1, hok2⟩ := (HS.out.ext hE2) q (by rw [Hlen.out]; exact hltq)
        obtain ⟨s, hs⟩ : ∃ s, s = gat d.ss q := ⟨_, rfl⟩
        rw [← hs] at e0 e1 hok2
        have hsl9 : s.l ≤ 9223372036854775807 := by have h1 := hok2.cap; have h2 := hok2.max; unfold maxLen at h2; omega
        obtain ⟨sl, hsl⟩ : ∃ z, z = s.l := ⟨_, rfl⟩
        rw [← hsl] at e1 hsl9
        have Hs := hide (show sl = (gat d.ss q).l by rw [hsl, hs])
        have HE2 := hide hE2
        clear hs hok2 hsl hE2
        rw [← HdA.out] at hA2
        subst hA2
        by_cases hbig : 1000 < sl
        · have hbigI : (1000 : Int) < (sl : Int) := by omega
          go_wp2_with fail
          go_ret
          exact ⟨false, rfl, fun h => Bool.noConfusion h, HE2.out.trans (by repeat (first | (with_reducible exact Upd.refl _ _) | (with_reducible assumption) | (refine Upd.setCell ?_ (.inr (by first | exact Nat.le_refl _ | (dsimp only; omega) | (simp; done) | (simp; omega))) _) | (with_reducible refine Upd.alloc ?_ _) | (with_reducible refine Upd.drew ?_) | (with_reducible refine Upd.trans ?_ (by with_reducible assumption))))⟩
        · have hbigI : ¬ (1000 : Int) < (sl : Int) := by omega
          go_wp2_with fail
          go_roundw
          case rel =>
            refine ⟨q + 1, by omega, by go_num, hide (fun i hi => ?_), HE2.out.trans (by repeat (first | (with_reducible exact Upd.refl _ _) | (with_reducible assumption) | (refine Upd.setCell ?_ (.inr (by first | exact Nat.le_refl _ | (dsimp only; omega) | (simp; done) | (simp; omega))) _) | (with_reducible refine Upd.alloc ?_ _) | (with_reducible refine Upd.drew ?_) | (with_reducible refine Upd.trans ?_ (by with_reducible assumption))))⟩
            by_cases hik : i < q
            · exact hF2.out i hik
            · obtain rfl : i = q := by omega
              rw [← Hs.out]; omega
          case measure => simp [Go.RowKit.intOf]; omega
    · have hd1I : ¬ (dl : Int) ≤ 100 := by omega
      by_cases h200 : 200 < t + 100
      · have h200I : (200 : Int) < (t : Int) + (100 : Int) := by omega
        go_wp2_with fail
        go_ret
        exact ⟨false, rfl, fun h => Bool.noConfusion h, HE.out.trans (by repeat (first | (with_reducible exact Upd.refl _ _) | (with_reducible assumption) | (refine Upd.setCell ?_ (.inr (by first | exact Nat.le_refl _ | (dsimp only; omega) | (simp; done) | (simp; omega))) _) | (with_reducible refine Upd.alloc ?_ _) | (with_reducible refine Upd.drew ?_) | (with_reducible refine Upd.trans ?_ (by with_reducible assumption))))⟩
      have h200I : ¬ (200 : Int) < (t : Int) + (100 : Int) := by omega
      go_wp2_with fail
      refine name_wx (fun Z hZ => ?_)
      have hEZ : Ext w Z := by rw [hZ]; exact HE.out.trans (by repeat (first | (with_reducible exact Upd.refl _ _) | (with_reducible assumption) | (refine Upd.setCell ?_ (.inr (by first | exact Nat.le_refl _ | (dsimp only; omega) | (simp; done) | (simp; omega))) _) | (with_reducible refine Upd.alloc ?_ _) | (with_reducible refine Upd.drew ?_) | (with_reducible refine Upd.trans ?_ (by with_reducible assumption))))
      have HEZ := hide hEZ
      clear hEZ c0 c1 c2 c3 c4 hZ
      go_loopw [30] (fun j wx => ∃ q : Nat, q ≤ dl ∧ j = .int .i64 (q : Int) ∧ Hid (∀ j, j < q → (gat d.ss j).l ≤ 1000) ∧ Ext w wx) (fun j _ => dl - (Go.RowKit.intOf j).toNat)
      case atStart => exact ⟨0, Nat.zero_le _, rfl, hide (fun i hi => absurd hi (by omega)), HEZ.out⟩
      case round =>
        obtain ⟨q, hq, rfl, hF2, hE2⟩ := hrel
        by_cases hltq : q < dl
        case neg =>
          obtain rfl : dl = q := by omega
          have hltqI : ¬ ((dl : Int) < (dl : Int)) := by omega
          go_wp2_with fail
          go_roundw
          case rel =>
            refine ⟨k + 1, t + 100, by omega, by omega, by omega, by go_num, by go_num, hide (fun i hi => ?_), hE2⟩
            by_cases hik : i < k
            · exact hF.out i hik
            · obtain rfl : i = k := by omega
              rw [← Hd.out, Hlen.out]
              exact hF2.out
          case measure => simp [Go.RowKit.intOf]; omega
        have hltqI : (q : Int) < (dl : Int) := by omega
        obtain ⟨b2, o2, hA2, e0, e1, hok2⟩ := (HS.out.ext hE2) q (by rw [Hlen.out]; exact hltq)
        obtain ⟨s, hs⟩ : ∃ s, s = gat d.ss q := ⟨_, rfl⟩
        rw [← hs] at e0 e1 hok2
        have hsl9 : s.l ≤ 9223372036854775807 := by have h1 := hok2.cap; have h2 := hok2.max; unfold maxLen at h2; omega
        obtain ⟨sl, hsl⟩ : ∃ z, z = s.l := ⟨_, rfl⟩
        rw [← hsl] at e1 hsl9
        have Hs := hide (show sl = (gat d.ss q).l by rw [hsl, hs])
        have HE2 := hide hE2
        clear hs hok2 hsl hE2
        rw [← HdA.out] at hA2
        subst hA2
        by_cases hbig : 1000 < sl
        · have hbigI : (1000 : Int) < (sl : Int) := by omega
          go_wp2_with fail
          go_ret
          exact ⟨false, rfl, fun h => Bool.noConfusion h, HE2.out.trans (by repeat (first | (with_reducible exact Upd.refl _ _) | (with_reducible assumption) | (refine Upd.setCell ?_ (.inr (by first | exact Nat.le_refl _ | (dsimp only; omega) | (simp; done) | (simp; omega))) _) | (with_reducible refine Upd.alloc ?_ _) | (with_reducible refine Upd.drew ?_) | (with_reducible refine Upd.trans ?_ (by with_reducible assumption))))⟩
        · have hbigI : ¬ (1000 : Int) < (sl : Int) := by omega
          go_wp2_with fail
          go_roundw
          case rel =>
            refine ⟨q + 1, by omega, by go_num, hide (fun i hi => ?_), HE2.out.trans (by repeat (first | (with_reducible exact Upd.refl _ _) | (with_reducible assumption) | (refine Upd.setCell ?_ (.inr (by first | exact Nat.le_refl _ | (dsimp only; omega) | (simp; done) | (simp; omega))) _) | (with_reducible refine Upd.alloc ?_ _) | (with_reducible refine Upd.drew ?_) | (with_reducible refine Upd.trans ?_ (by with_reducible assumption))))⟩
            by_cases hik : i < q
            · exact hF2.out i hik
            · obtain rfl : i = q := by omega
              rw [← Hs.out]; omega
          case measure => simp [Go.RowKit.intOf]; omega
end Go.Proofs.Ytejjofjhcgdedaa
