/- The laws of the tag: the example lives; few bytes. -/
import Derived.Test.YtlbhjjihopafoaaMacE
namespace Go.Proofs.Ytlbhjjihopafoaa
open Go.RowKit
open Sha
open Mac
attribute [local go_sem] steady steadyUpon Cls same_cell by8 by32 by64

def exKey : List (BitVec 8) := List.replicate 20 0x0b
def exMsg : List (BitVec 8) := [72, 105, 32] ++ [84, 104, 101, 114, 101]
def exIn : List (BitVec 8) := [0x92, 0xab, 0x4d, 0x9a, 0x1f, 0x3b, 0x61, 0x52, 0xbc, 0xa9, 0xdd, 0x9e, 0x69, 0xaf, 0x43, 0xf4, 0xce, 0x99, 0xe4, 0x2f, 0xd4, 0xe3, 0x0f, 0xf9, 0x72, 0xc4, 0x80, 0x25, 0xb9, 0xf9, 0xcf, 0xef]
def exOut : List (BitVec 8) := [0xb0, 0x34, 0x4c, 0x61, 0xd8, 0xdb, 0x38, 0x53, 0x5c, 0xa8, 0xaf, 0xce, 0xaf, 0x0b, 0xf1, 0x2b, 0x88, 0x1d, 0xc2, 0x00, 0xc9, 0x83, 0x3d, 0xa7, 0x26, 0xe9, 0x37, 0x6c, 0x2e, 0x32, 0xcf, 0xf7]
theorem ex_kb : kb exKey = exKey := by unfold kb; rw [if_neg (by simp [exKey])]
theorem ex_inner : inner exKey exMsg = exIn :=
  sum_is _ _ [0x3d, 0x3d, 0x3d, 0x3d, 0x3d, 0x3d, 0x3d, 0x3d, 0x3d, 0x3d, 0x3d, 0x3d, 0x3d, 0x3d, 0x3d, 0x3d, 0x3d, 0x3d, 0x3d, 0x3d, 0x36, 0x36, 0x36, 0x36, 0x36, 0x36, 0x36, 0x36, 0x36, 0x36, 0x36, 0x36, 0x36, 0x36, 0x36, 0x36, 0x36, 0x36, 0x36, 0x36, 0x36, 0x36, 0x36, 0x36, 0x36, 0x36, 0x36, 0x36, 0x36, 0x36, 0x36, 0x36, 0x36, 0x36, 0x36, 0x36, 0x36, 0x36, 0x36, 0x36, 0x36, 0x36, 0x36, 0x36, 0x48, 0x69, 0x20, 0x54, 0x68, 0x65, 0x72, 0x65, 0x80, 0x00, 0x00, 0x00, 0x00, 0x00, 0x00, 0x00, 0x00, 0x00, 0x00, 0x00, 0x00, 0x00, 0x00, 0x00, 0x00, 0x00, 0x00, 0x00, 0x00, 0x00, 0x00, 0x00, 0x00, 0x00, 0x00, 0x00, 0x00, 0x00, 0x00, 0x00, 0x00, 0x00, 0x00, 0x00, 0x00, 0x00, 0x00, 0x00, 0x00, 0x00, 0x00, 0x00, 0x00, 0x00, 0x00, 0x00, 0x00, 0x00, 0x00, 0x00, 0x00, 0x00, 0x02, 0x40] _ (by unfold padk; rw [ex_kb]; decide +kernel) rfl (by decide +kernel)
theorem ex_tag : tag exKey exMsg = exOut := by
  unfold tag
  rw [ex_inner]
  exact sum_is _ _ [0x57, 0x57, 0x57, 0x57, 0x57, 0x57, 0x57, 0x57, 0x57, 0x57, 0x57, 0x57, 0x57, 0x57, 0x57, 0x57, 0x57, 0x57, 0x57, 0x57, 0x5c, 0x5c, 0x5c, 0x5c, 0x5c, 0x5c, 0x5c, 0x5c, 0x5c, 0x5c, 0x5c, 0x5c, 0x5c, 0x5c, 0x5c, 0x5c, 0x5c, 0x5c, 0x5c, 0x5c, 0x5c, 0x5c, 0x5c, 0x5c, 0x5c, 0x5c, 0x5c, 0x5c, 0x5c, 0x5c, 0x5c, 0x5c, 0x5c, 0x5c, 0x5c, 0x5c, 0x5c, 0x5c, 0x5c, 0x5c, 0x5c, 0x5c, 0x5c, 0x5c, 0x92, 0xab, 0x4d, 0x9a, 0x1f, 0x3b, 0x61, 0x52, 0xbc, 0xa9, 0xdd, 0x9e, 0x69, 0xaf, 0x43, 0xf4, 0xce, 0x99, 0xe4, 0x2f, 0xd4, 0xe3, 0x0f, 0xf9, 0x72, 0xc4, 0x80, 0x25, 0xb9, 0xf9, 0xcf, 0xef, 0x80, 0x00, 0x00, 0x00, 0x00, 0x00, 0x00, 0x00, 0x00, 0x00, 0x00, 0x00, 0x00, 0x00, 0x00, 0x00, 0x00, 0x00, 0x00, 0x00, 0x00, 0x00, 0x00, 0x00, 0x00, 0x00, 0x00, 0x00, 0x00, 0x00, 0x03, 0x00] _ (by unfold padk; rw [ex_kb]; decide +kernel) rfl (by decide +kernel)
def exTo (k : Nat) : List (BitVec 8) := (List.range 20).map fun i => if i < k then 0x0b else 0
theorem exTo_step (k : Nat) (h : k < 20) : (exTo k).set k 0x0b = exTo (k + 1) := by
  apply List.ext_getElem?; intro j
  rw [List.getElem?_set]
  by_cases hj : k = j
  · subst hj
    simp [exTo, h]
  · rw [if_neg hj]
    simp only [exTo, List.getElem?_map]
    by_cases hjl : j < 20
    · simp only [List.getElem?_range hjl, Option.map_some]
      by_cases h3 : j < k
      · rw [if_pos h3, if_pos (by omega)]
      · rw [if_neg h3, if_neg (by omega)]
    · rw [List.getElem?_eq_none (by simp; omega)]
      rfl

set_option maxRecDepth 100000 in
set_option maxHeartbeats 1000000 in
theorem mlives_any (w : World) : Calls Try.prog 23 #[] w fun e w' => e = .returned (.bool true) ∧ Ext w w' := by
  go_enter Try.func23, Try.ntmps23
  go_wp2_with (at_make; go_must (refine wpList_mk _ _ _ Try.el8 rfl rfl 20 rfl rfl rfl rfl (by decide) (by decide) by8 rfl rfl (Nat.le_refl _) ?_); rintro g w1 hO rfl hU)
  go_loopw [7, 2] (fun i _ wr => ∃ k : Nat, k ≤ 20 ∧ i = .int .i64 k ∧ Own wr w.heap.size 5 (some ⟨w.heap.size, 0, none⟩) 20 ((exTo k).map by8) ∧ Ext w wr) (fun i _ _ => 20 - (intOf i).toNat)
  case atStart => exact ⟨0, by omega, rfl, hO, hU⟩
  case round =>
    clear hO hU
    obtain ⟨k, hk, rfl, hO, hU⟩ := hrel
    by_cases hlt : k < 20
    · have hO' := hide hO
      clear hO
      go_wp2_with (refine wpList_store_own by8 one8 0x0b rfl rfl Try.sz8 rfl rfl hO'.out (by simp [exTo]; omega) ?_; intro w3 hO3 hU3)
      go_roundw
      case rel => exact ⟨k + 1, by omega, by go_num, by rw [exTo_step k hlt] at hO3; exact hO3, upd_new hU3 hU (fun i hi => Nat.le_of_eq hi.symm)⟩
      case measure => simp [intOf]; omega
    · obtain rfl : k = 20 := by omega
      clear hk hlt
      have hO' : Hid (Own wr w.heap.size 5 (some ⟨w.heap.size, 0, none⟩) 20 (exKey.map by8)) := hide hO
      clear hO
      have hc1 := Lib.run_convert_bytes_const (P := Try.prog) wr 22 5 #[.int .u8 72, .int .u8 105, .int .u8 32] 3 3 Try.under_bs Try.under8
      have hc2 := Joins.run_convert_bytes_const_at (P := Try.prog) (wr.alloc (.cells #[.int .u8 72, .int .u8 105, .int .u8 32] 5 (3, 4))) 22 5 #[.int .u8 84, .int .u8 104, .int .u8 101, .int .u8 114, .int .u8 101] 5 5 (wr.heap.size + 1) (by simp) Try.under_bs Try.under8
      have hs1 : Sl by8 (wr.alloc (.cells #[.int .u8 72, .int .u8 105, .int .u8 32] 5 (3, 4))) (some ⟨wr.heap.size, 0, none⟩) ([72, 105, 32] : List (BitVec 8)) := Sl.mark by8 wr 5 (3, 4) [72, 105, 32]
      have hs2 := Sl.mark by8 (wr.alloc (.cells #[.int .u8 72, .int .u8 105, .int .u8 32] 5 (3, 4))) 5 (5, 6) ([84, 104, 101, 114, 101] : List (BitVec 8))
      have hz1 : (wr.alloc (.cells #[.int .u8 72, .int .u8 105, .int .u8 32] 5 (3, 4))).heap.size = wr.heap.size + 1 := by simp
      rw [hz1] at hs2
      have hP := Pts.two ((wr.alloc (.cells #[.int .u8 72, .int .u8 105, .int .u8 32] 5 (3, 4))).alloc (.cells #[.int .u8 84, .int .u8 104, .int .u8 101, .int .u8 114, .int .u8 101] 5 (5, 6))) 22 ⟨some ⟨wr.heap.size, 0, none⟩, 3, 3, [72, 105, 32]⟩ ⟨some ⟨wr.heap.size + 1, 0, none⟩, 5, 5, [84, 104, 101, 114, 101]⟩ ⟨hs1.ext ((Upd.refl _ _).alloc _), rfl, Nat.le_refl _, by simp [maxLen]⟩ ⟨hs2, rfl, Nat.le_refl _, by simp [maxLen]⟩
      rw [show ((wr.alloc (.cells #[.int .u8 72, .int .u8 105, .int .u8 32] 5 (3, 4))).alloc (.cells #[.int .u8 84, .int .u8 104, .int .u8 101, .int .u8 114, .int .u8 101] 5 (5, 6))).heap.size = wr.heap.size + 1 + 1 by simp] at hP
      have HP := hide hP
      have HU := hide ((((hU.alloc (.cells #[.int .u8 72, .int .u8 105, .int .u8 32] 5 (3, 4))).alloc (.cells #[.int .u8 84, .int .u8 104, .int .u8 101, .int .u8 114, .int .u8 101] 5 (5, 6))).alloc (.cells #[.slice (some ⟨wr.heap.size, 0, none⟩) 3 3, .slice (some ⟨wr.heap.size + 1, 0, none⟩) 5 5] 22)))
      clear hs1 hs2 hz1 hP
      go_wp2_with fail
      refine (tag_any (some ⟨w.heap.size, 0, none⟩) 20 20 exKey _ 2 2 [⟨some ⟨wr.heap.size, 0, none⟩, 3, 3, [72, 105, 32]⟩, ⟨some ⟨wr.heap.size + 1, 0, none⟩, 5, 5, [84, 104, 101, 114, 101]⟩] _ (hO'.out.sl.ext ((((Upd.refl _ _).alloc _).alloc _).alloc _)) rfl (Nat.le_refl _) (by simp [maxLen]) (by omega) HP.out rfl (by rw [flat2]; simp) (by simp [maxLen])).mono ?_
      rintro e w2 ⟨A2, c2, rfl, hO2, hU2⟩
      rw [flat2] at hO2
      have hO2' := hO2
      change Own w2 _ 5 A2 c2 ((tag exKey exMsg).map by8) at hO2'
      rw [ex_tag] at hO2'
      obtain ⟨g, rfl, -, -⟩ := hO2'.open_ (by simp [exOut])
      have k0 : w2.cell? ⟨g, 0, none⟩ = some (.int .u8 176) := Own.at_ hO2' (i := 0) (by simp [exOut])
      have k1 : w2.cell? ⟨g, 31, none⟩ = some (.int .u8 247) := Own.at_ hO2' (i := 31) (by simp [exOut])
      clear hO2 hO2' hc1 hc2
      go_wp2
      go_ret
      exact ⟨rfl, HU.out.trans hU2⟩

def fewB (ps : List Pt) : Prop := ∀ i, i < ps.length → (gat ps i).n ≤ 500
set_option maxHeartbeats 1000000 in
theorem few_yes (A : Option Addr) (n c : Nat) (ps : List Pt) (w : World) (hP : Pts w A ps) (hn : ps.length = n) (hm : n ≤ maxLen) (hf : fewB ps) :
    Calls Try.prog 24 #[.slice A n c] w fun e w' => e = .returned (.bool true) ∧ w = w' := by
  unfold maxLen at hm
  have Hn := hide hn
  have HP := hide hP
  have Hf := hide hf
  clear hn hP hf
  go_enter Try.func24, Try.ntmps24
  go_wp2_with fail
  go_loop [7, 4] (fun i _ => ∃ k : Nat, k ≤ n ∧ i = .int .i64 k) (fun i _ => n - (intOf i).toNat)
  case atStart => exact ⟨0, by omega, rfl⟩
  case round =>
    obtain ⟨k, hk, rfl⟩ := hrel
    by_cases hlt : k < n
    · have hlti : (k : Int) < n := by omega
      have hd : decide ((k : Int) < n) = true := decide_eq_true (by omega)
      obtain ⟨b, o, rfl, _, hc⟩ := HP.out.1.open_ (by have := Hn.out; omega)
      have hck := hc k (by have := Hn.out; omega)
      unfold Pt.val at hck
      have hle := Hf.out k (by have := Hn.out; omega)
      have hle' : ¬ (500 : Int) < ((gat ps k).n : Int) := by omega
      clear hc
      go_wp2_with fail
      go_round
      case rel => exact ⟨k + 1, by omega, by go_num⟩
      case measure => simp [intOf]; omega
    · obtain rfl : k = n := by omega
      clear hk hlt
      go_wp2_with fail
      go_ret
      exact ⟨rfl, rfl⟩
set_option maxHeartbeats 1000000 in
theorem few_no (A : Option Addr) (n c : Nat) (ps : List Pt) (w : World) (hP : Pts w A ps) (hn : ps.length = n) (hm : n ≤ maxLen) (hf : ¬ fewB ps) :
    Calls Try.prog 24 #[.slice A n c] w fun e w' => e = .returned (.bool false) ∧ w = w' := by
  unfold maxLen at hm
  obtain ⟨x, hx, hx5⟩ : ∃ x, x < ps.length ∧ 500 < (gat ps x).n := by
    unfold fewB at hf
    simp only [Classical.not_forall] at hf
    obtain ⟨x, h1, h2⟩ := hf
    exact ⟨x, h1, by omega⟩
  have Hok := hide fun i hi => (hP.2 i hi).2
  have Hn := hide hn
  have HP := hide hP
  have Hx := hide hx
  have Hx5 := hide hx5
  clear hn hP hf hx hx5
  go_enter Try.func24, Try.ntmps24
  go_wp2_with fail
  go_loop [7, 4] (fun i _ => ∃ k : Nat, k ≤ x ∧ i = .int .i64 k) (fun i _ => n - (intOf i).toNat)
  case atStart => exact ⟨0, by omega, rfl⟩
  case round =>
    obtain ⟨k, hk, rfl⟩ := hrel
    have hlt : k < n := by have := Hn.out; have := Hx.out; omega
    have hlti : (k : Int) < n := by omega
    have hd : decide ((k : Int) < n) = true := decide_eq_true (by omega)
    obtain ⟨b, o, rfl, _, hc⟩ := HP.out.1.open_ (by have := Hn.out; omega)
    have hck := hc k (by have := Hn.out; omega)
    unfold Pt.val at hck
    clear hc
    by_cases h5 : 500 < (gat ps k).n
    · have h5' : (500 : Int) < ((gat ps k).n : Int) := by omega
      go_wp2_with fail
      go_ret
      exact ⟨rfl, rfl⟩
    · have h5' : ¬ (500 : Int) < ((gat ps k).n : Int) := by omega
      have hkx : k ≠ x := fun h => by subst h; exact h5 Hx5.out
      go_wp2_with fail
      go_round
      case rel => exact ⟨k + 1, by omega, by go_num⟩
      case measure => simp [intOf]; omega
end Go.Proofs.Ytlbhjjihopafoaa
