/- The law on numbers and bytes, walked. -/
import Derived.Test.YtekpjdfgpggcnaaLawM
import Derived.Test.YtekpjdfgpggcnaaNatV
namespace Go.Proofs.Ytekpjdfgpggcnaa
open Go.RowKit
open Nt

theorem xor_255 (x : BitVec 8) : bits .xor .u8 (n8 x) 255 = n8 (x ^^^ 255#8) := xor_u8 x 255#8
attribute [local go_sem] steady steadyUpon Cls same_cell by8 str_eq xor_255

theorem own_nil (w : World) {B : Nat} (t : TypeId) (hB : B ≤ w.heap.size) : Own (w.alloc (.cells #[] t)) B t (some ⟨w.heap.size, 0, none⟩) 0 (([] : List (BitVec 8)).map by8) :=
  ⟨rfl, .inr ⟨w.heap.size, 0, #[], rfl, hB, heap_alloc_new w _, Nat.le_refl _, Nat.zero_le _, rfl, rfl⟩⟩
theorem RefV.upd' {w w' : World} {A : Option Addr} {l c n : Nat} {T : Nat → Prop} (h : RefV w (.slice A l c) n) (hu : Upd T w w') (hT : ∀ k, inA A k → ¬ T k) : RefV w' (.slice A l c) n := h.upd hu hT
theorem nbytes_size (A : Option Addr) (n c : Nat) (size : Int) (w : World) (hm : n ≤ maxLen) (h : 1000 < size) :
    Calls Try.prog 3 #[.slice A n c, .int .i64 size] w fun e w' => e = .returned (.bool true) ∧ Ext w w' := by
  unfold maxLen at hm
  go_enter Try.func3, Try.ntmps3
  go_wp2_with fail
  refine (nlives_any _).mono ?_
  rintro e w1 ⟨rfl, hE⟩
  go_wp2_with fail
  refine (nlives_any _).mono ?_
  rintro e w2 ⟨rfl, hE2⟩
  go_wp2_with fail
  go_ret
  exact ⟨rfl, hE.trans hE2⟩
theorem nbytes_len (A : Option Addr) (n c : Nat) (size : Int) (w : World) (hm : n ≤ maxLen) (h0 : ¬ 1000 < size) (h : (1000 : Int) < (n : Int)) :
    Calls Try.prog 3 #[.slice A n c, .int .i64 size] w fun e w' => e = .returned (.bool true) ∧ Ext w w' := by
  unfold maxLen at hm
  go_enter Try.func3, Try.ntmps3
  go_wp2_with fail
  refine (nlives_any _).mono ?_
  rintro e w1 ⟨rfl, hE⟩
  go_wp2_with fail
  refine (nlives_any _).mono ?_
  rintro e w2 ⟨rfl, hE2⟩
  go_wp2_with fail
  go_ret
  exact ⟨rfl, hE.trans hE2⟩
set_option maxRecDepth 100000 in
set_option maxHeartbeats 8000000 in
theorem nbytes_neg (A : Option Addr) (n c V : Nat) (ec : Int) (bs : List (BitVec 8)) (size : Int) (w : World) (h1 : Hid (In8 w A n c bs)) (hn1 : n ≤ 1000) (hs1 : ¬ 1000 < size) (hFV : Fit 40 V)
    (HF : Hid (∀ w' A' c', Sl by8 w' A' bs → Calls Try.prog 14 #[.slice A' n c'] w' (RetE1 w' V ec))) (HG : Hid (∀ w', Ext w w' → Calls Try.prog 15 #[.slice A n c] w' (RetG1 w' V ec))) (hs : size < 0) :
    Calls Try.prog 3 #[.slice A n c, .int .i64 size] w fun e w' => e = .returned (.bool true) ∧ Ext w w' := by
  have hn1' : ¬ (1000 : Int) < (n : Int) := by omega
  skip
  go_enter Try.func3, Try.ntmps3
  go_wp2_with fail
  refine (nlives_any _).mono ?_
  rintro e w1 ⟨rfl, hE⟩
  go_wp2_with (at_builtin; go_must (refine wpList_apd by8 one8 Try.n_el8 [] bs bs n rfl h1.out.1 (by omega) (by unfold maxLen; omega) rfl rfl rfl rfl (own_nil w1 5 (Nat.le_refl _)) rfl h1.out.1 (h1.out.2.2.2.ext (hE.alloc _)) (by simp) ?_); intro A2 c2 w2 hO2 hU2 hin2)
  have hE2 : Ext w w2 := Upd.fresh hU2 (hE.alloc _) (fun i hi => by unfold inA at hi; simp at hi; have := hE.size; omega)
  have hN2 : ∀ k, inA A2 k → w.heap.size ≤ k := fun k hk => by have := (hO2.in_ hk).1; have := hE.size; omega
  have hL2 : ∀ k, inA A2 k → k < w2.heap.size := fun k hk => (hO2.in_ hk).2
  clear hU2 hin2 hE
  refine (HF.out _ A2 c2 hO2.sl).mono ?_
  rintro e w3 ⟨A3, l3, c3, rfl, hV3, hU3, hN3⟩
  go_wp2_with fail
  refine name_c (fun W hW => ?_)
  have b6 : Box W w3.heap.size 26 (.slice A3 l3 c3) := by rw [hW]; exact Box.new _ _ _
  have hXW : Ext w2 W := by rw [hW]; exact hU3.alloc _
  have hX3 : Ext w3 W := by rw [hW]; exact (Upd.refl _ _).alloc _
  have hz3 := hU3.size
  replace hV3 := hV3.ext hX3
  replace hO2 := hO2.ext hXW
  have hEW := hE2.trans hXW
  clear hW hX3 hU3 hE2
  refine (HG.out _ hEW).mono ?_
  rintro e w5 ⟨A5, l5, c5, rfl, hR5, hU5, hN5⟩
  have hz5 := hXW.size
  replace b6 := b6.ext hU5
  replace hV3 := hV3.ext hU5
  replace hO2 := hO2.ext hU5
  replace hEW := hEW.trans hU5
  have hca := nstr_run (c := c2) hO2.sl h1.out.1
  have hcb := nstr_run (c := c) (h1.out.2.2.2.ext hEW) h1.out.1
  have k6 := b6.cell
  clear hU5 hXW
  go_wp2_with fail
  refine (lsame_any _ _ V V 40 _ hV3 hR5 hFV hFV (by omega)).mono ?_
  rintro e w6 ⟨rfl, hU⟩
  rw [decide_eq_true rfl]
  clear hca hcb k6
  replace b6 := b6.ext hU
  replace hV3 := hV3.ext hU
  replace hR5 := hR5.ext hU
  replace hO2 := hO2.ext hU
  replace hEW := hEW.trans hU
  clear hU
  go_wp2_with fail
  go_loopw [58] (fun i wx => ∃ (j : Nat) (zs : List (BitVec 8)), j ≤ n ∧ i = .int .i64 j ∧ zs.length = n ∧ Own wx w1.heap.size 5 A2 c2 (zs.map by8) ∧ Upd (inA A2) w6 wx) (fun i _ => n - (intOf i).toNat)
  case atStart => exact ⟨0, bs, Nat.zero_le _, rfl, h1.out.1, hO2, Upd.refl _ _⟩
  case round =>
    clear hO2
    obtain ⟨j, zs, hj, rfl, hzl, hO, hU⟩ := hrel
    have Hzl := hide hzl
    clear hzl
    by_cases hjn : j < n
    · obtain ⟨g, hA2, hg1, hg2⟩ := hO.open_ (by rw [List.length_map, Hzl.out]; omega)
      subst hA2
      have hcx := hO.row.cell (i := j) (by rw [Hzl.out]; exact hjn)
      go_wp2_with (refine wpList_store_own by8 one8 (gat zs j ^^^ 255#8) rfl rfl Try.n_sz8 rfl rfl hO (by rw [Hzl.out]; exact hjn) ?_; intro w7 hO7 hU7)
      go_roundw
      case rel => exact ⟨j + 1, _, by omega, by go_num, by rw [List.length_set]; exact Hzl.out, hO7, hU.trans' hU7 (fun i _ hi => by unfold only at hi; subst hi; simp [inA])⟩
      case measure => simp [intOf]; omega
    · obtain rfl : j = n := by omega
      have hT6 : ¬ inA A2 w3.heap.size := fun h => by have := hL2 _ h; omega
      have hT3 : ∀ k, inA A3 k → ¬ inA A2 k := fun k hk h => by have := hL2 _ h; have := hN3 k hk; omega
      have hT5 : ∀ k, inA A5 k → ¬ inA A2 k := fun k hk h => by have := hL2 _ h; have := hN5 k hk; omega
      replace b6 := b6.upd hU hT6
      replace hV3 := hV3.upd hU hT3
      replace hR5 := hR5.upd hU hT5
      have hEx : Ext w wr := Upd.fresh hU hEW hN2
      clear hO hU hEW hT6 hT3 hT5 hN2 hL2 hN3 hN5
      have k6 := b6.cell
      have hG : Ext wr wr := Upd.refl _ _
      -- a call: bytes_neg _ V size _ hV3 hs its contract, w8 the world behind it, A8, c8, rfl, hl8, hO8 what is known (Ext last)
      go_wp2_with fail
      refine (bytes_neg _ V size _ hV3 hs).mono ?_
      rintro e w8 ⟨A8, c8, rfl, hl8, hO8, hU⟩
      replace hG := hG.trans hU
      go_wp2_with fail
      go_ret
      exact ⟨rfl, hEx.trans hG⟩
set_option maxRecDepth 100000 in
set_option maxHeartbeats 8000000 in
theorem nbytes_yes (A : Option Addr) (n c V : Nat) (ec : Int) (bs : List (BitVec 8)) (size : Int) (w : World) (h1 : Hid (In8 w A n c bs)) (hn1 : n ≤ 1000) (hs1 : ¬ 1000 < size) (hFV : Fit 40 V)
    (HF : Hid (∀ w' A' c', Sl by8 w' A' bs → Calls Try.prog 14 #[.slice A' n c'] w' (RetE1 w' V ec))) (HG : Hid (∀ w', Ext w w' → Calls Try.prog 15 #[.slice A n c] w' (RetG1 w' V ec))) (hs : 0 ≤ size) (hbl : bytelen V ≤ size.toNat) :
    Calls Try.prog 3 #[.slice A n c, .int .i64 size] w fun e w' => e = .returned (.bool true) ∧ Ext w w' := by
  have hn1' : ¬ (1000 : Int) < (n : Int) := by omega
  obtain ⟨s, rfl⟩ : ∃ s : Nat, size = (s : Int) := ⟨size.toNat, by omega⟩; have hs2 : s ≤ 1000 := (by omega); have hs0 : ¬ ((s : Int) < 0) := (by omega); have hbl2 : bytelen V ≤ s := (by omega); have hbV : blen V ≤ 2000 := (by have := Fit.blen hFV; omega); clear hs hbl
  go_enter Try.func3, Try.ntmps3
  go_wp2_with fail
  refine (nlives_any _).mono ?_
  rintro e w1 ⟨rfl, hE⟩
  go_wp2_with (at_builtin; go_must (refine wpList_apd by8 one8 Try.n_el8 [] bs bs n rfl h1.out.1 (by omega) (by unfold maxLen; omega) rfl rfl rfl rfl (own_nil w1 5 (Nat.le_refl _)) rfl h1.out.1 (h1.out.2.2.2.ext (hE.alloc _)) (by simp) ?_); intro A2 c2 w2 hO2 hU2 hin2)
  have hE2 : Ext w w2 := Upd.fresh hU2 (hE.alloc _) (fun i hi => by unfold inA at hi; simp at hi; have := hE.size; omega)
  have hN2 : ∀ k, inA A2 k → w.heap.size ≤ k := fun k hk => by have := (hO2.in_ hk).1; have := hE.size; omega
  have hL2 : ∀ k, inA A2 k → k < w2.heap.size := fun k hk => (hO2.in_ hk).2
  clear hU2 hin2 hE
  refine (HF.out _ A2 c2 hO2.sl).mono ?_
  rintro e w3 ⟨A3, l3, c3, rfl, hV3, hU3, hN3⟩
  go_wp2_with fail
  refine name_c (fun W hW => ?_)
  have b6 : Box W w3.heap.size 26 (.slice A3 l3 c3) := by rw [hW]; exact Box.new _ _ _
  have hXW : Ext w2 W := by rw [hW]; exact hU3.alloc _
  have hX3 : Ext w3 W := by rw [hW]; exact (Upd.refl _ _).alloc _
  have hz3 := hU3.size
  replace hV3 := hV3.ext hX3
  replace hO2 := hO2.ext hXW
  have hEW := hE2.trans hXW
  clear hW hX3 hU3 hE2
  refine (HG.out _ hEW).mono ?_
  rintro e w5 ⟨A5, l5, c5, rfl, hR5, hU5, hN5⟩
  have hz5 := hXW.size
  replace b6 := b6.ext hU5
  replace hV3 := hV3.ext hU5
  replace hO2 := hO2.ext hU5
  replace hEW := hEW.trans hU5
  have hca := nstr_run (c := c2) hO2.sl h1.out.1
  have hcb := nstr_run (c := c) (h1.out.2.2.2.ext hEW) h1.out.1
  have k6 := b6.cell
  clear hU5 hXW
  go_wp2_with fail
  refine (lsame_any _ _ V V 40 _ hV3 hR5 hFV hFV (by omega)).mono ?_
  rintro e w6 ⟨rfl, hU⟩
  rw [decide_eq_true rfl]
  clear hca hcb k6
  replace b6 := b6.ext hU
  replace hV3 := hV3.ext hU
  replace hR5 := hR5.ext hU
  replace hO2 := hO2.ext hU
  replace hEW := hEW.trans hU
  clear hU
  go_wp2_with fail
  go_loopw [58] (fun i wx => ∃ (j : Nat) (zs : List (BitVec 8)), j ≤ n ∧ i = .int .i64 j ∧ zs.length = n ∧ Own wx w1.heap.size 5 A2 c2 (zs.map by8) ∧ Upd (inA A2) w6 wx) (fun i _ => n - (intOf i).toNat)
  case atStart => exact ⟨0, bs, Nat.zero_le _, rfl, h1.out.1, hO2, Upd.refl _ _⟩
  case round =>
    clear hO2
    obtain ⟨j, zs, hj, rfl, hzl, hO, hU⟩ := hrel
    have Hzl := hide hzl
    clear hzl
    by_cases hjn : j < n
    · obtain ⟨g, hA2, hg1, hg2⟩ := hO.open_ (by rw [List.length_map, Hzl.out]; omega)
      subst hA2
      have hcx := hO.row.cell (i := j) (by rw [Hzl.out]; exact hjn)
      go_wp2_with (refine wpList_store_own by8 one8 (gat zs j ^^^ 255#8) rfl rfl Try.n_sz8 rfl rfl hO (by rw [Hzl.out]; exact hjn) ?_; intro w7 hO7 hU7)
      go_roundw
      case rel => exact ⟨j + 1, _, by omega, by go_num, by rw [List.length_set]; exact Hzl.out, hO7, hU.trans' hU7 (fun i _ hi => by unfold only at hi; subst hi; simp [inA])⟩
      case measure => simp [intOf]; omega
    · obtain rfl : j = n := by omega
      have hT6 : ¬ inA A2 w3.heap.size := fun h => by have := hL2 _ h; omega
      have hT3 : ∀ k, inA A3 k → ¬ inA A2 k := fun k hk h => by have := hL2 _ h; have := hN3 k hk; omega
      have hT5 : ∀ k, inA A5 k → ¬ inA A2 k := fun k hk h => by have := hL2 _ h; have := hN5 k hk; omega
      replace b6 := b6.upd hU hT6
      replace hV3 := hV3.upd hU hT3
      replace hR5 := hR5.upd hU hT5
      have hEx : Ext w wr := Upd.fresh hU hEW hN2
      clear hO hU hEW hT6 hT3 hT5 hN2 hL2 hN3 hN5
      have k6 := b6.cell
      have hG : Ext wr wr := Upd.refl _ _
      -- a call: bytes_any _ V 40 s _ hV3 hFV (by omega) hbl2 (by omega) its contract, w8 the world behind it, A8, c8, rfl, hl8, hO8 what is known (Ext last)
      go_wp2_with fail
      refine (bytes_any _ V 40 s _ hV3 hFV (by omega) hbl2 (by omega)).mono ?_
      rintro e w8 ⟨A8, c8, rfl, hl8, hO8, hU⟩
      replace hG := hG.trans hU
      have Hl8 := hide hl8
      clear hl8 hU
      -- a call: rbytes_any _ V 2000 s _ (hR5.ext hG) hbV (by omega) hbl2 (by omega) its contract, w9 the world behind it, A9, c9, rfl, hl9, hO9 what is known (Ext last)
      go_wp2_with fail
      refine (rbytes_any _ V 2000 s _ (hR5.ext hG) hbV (by omega) hbl2 (by omega)).mono ?_
      rintro e w9 ⟨A9, c9, rfl, hl9, hO9, hU⟩
      replace hG := hG.trans hU
      replace hO8 := hO8.ext hU
      have Hl9 := hide hl9
      clear hl9
      replace k6 := (b6.ext hG).cell
      -- a call: lsame_any _ _ V V 40 _ (hV3.ext hG) (hR5.ext hG) hFV hFV (by omega) its contract, w10 the world behind it, rfl what is known (Ext last)
      go_wp2_with fail
      refine (lsame_any _ _ V V 40 _ (hV3.ext hG) (hR5.ext hG) hFV hFV (by omega)).mono ?_
      rintro e w10 ⟨rfl, hU⟩
      replace hG := hG.trans hU
      rw [decide_eq_true rfl]
      have hca := nstr_run (c := c8) (hO8.ext hU).sl Hl8.out
      have hcb := nstr_run (c := c9) (hO9.ext hU).sl Hl9.out
      go_wp2_with fail
      go_ret
      exact ⟨rfl, hEx.trans hG⟩
set_option maxRecDepth 100000 in
set_option maxHeartbeats 8000000 in
theorem nbytes_no (A : Option Addr) (n c V : Nat) (ec : Int) (bs : List (BitVec 8)) (size : Int) (w : World) (h1 : Hid (In8 w A n c bs)) (hn1 : n ≤ 1000) (hs1 : ¬ 1000 < size) (hFV : Fit 40 V)
    (HF : Hid (∀ w' A' c', Sl by8 w' A' bs → Calls Try.prog 14 #[.slice A' n c'] w' (RetE1 w' V ec))) (HG : Hid (∀ w', Ext w w' → Calls Try.prog 15 #[.slice A n c] w' (RetG1 w' V ec))) (hs : 0 ≤ size) (hbl : size.toNat < bytelen V) :
    Calls Try.prog 3 #[.slice A n c, .int .i64 size] w fun e w' => e = .returned (.bool true) ∧ Ext w w' := by
  have hn1' : ¬ (1000 : Int) < (n : Int) := by omega
  obtain ⟨s, rfl⟩ : ∃ s : Nat, size = (s : Int) := ⟨size.toNat, by omega⟩; have hs2 : s ≤ 1000 := (by omega); have hs0 : ¬ ((s : Int) < 0) := (by omega); have hbl2 : s < bytelen V := (by omega); have hbV : blen V ≤ 2000 := (by have := Fit.blen hFV; omega); clear hs hbl
  go_enter Try.func3, Try.ntmps3
  go_wp2_with fail
  refine (nlives_any _).mono ?_
  rintro e w1 ⟨rfl, hE⟩
  go_wp2_with (at_builtin; go_must (refine wpList_apd by8 one8 Try.n_el8 [] bs bs n rfl h1.out.1 (by omega) (by unfold maxLen; omega) rfl rfl rfl rfl (own_nil w1 5 (Nat.le_refl _)) rfl h1.out.1 (h1.out.2.2.2.ext (hE.alloc _)) (by simp) ?_); intro A2 c2 w2 hO2 hU2 hin2)
  have hE2 : Ext w w2 := Upd.fresh hU2 (hE.alloc _) (fun i hi => by unfold inA at hi; simp at hi; have := hE.size; omega)
  have hN2 : ∀ k, inA A2 k → w.heap.size ≤ k := fun k hk => by have := (hO2.in_ hk).1; have := hE.size; omega
  have hL2 : ∀ k, inA A2 k → k < w2.heap.size := fun k hk => (hO2.in_ hk).2
  clear hU2 hin2 hE
  refine (HF.out _ A2 c2 hO2.sl).mono ?_
  rintro e w3 ⟨A3, l3, c3, rfl, hV3, hU3, hN3⟩
  go_wp2_with fail
  refine name_c (fun W hW => ?_)
  have b6 : Box W w3.heap.size 26 (.slice A3 l3 c3) := by rw [hW]; exact Box.new _ _ _
  have hXW : Ext w2 W := by rw [hW]; exact hU3.alloc _
  have hX3 : Ext w3 W := by rw [hW]; exact (Upd.refl _ _).alloc _
  have hz3 := hU3.size
  replace hV3 := hV3.ext hX3
  replace hO2 := hO2.ext hXW
  have hEW := hE2.trans hXW
  clear hW hX3 hU3 hE2
  refine (HG.out _ hEW).mono ?_
  rintro e w5 ⟨A5, l5, c5, rfl, hR5, hU5, hN5⟩
  have hz5 := hXW.size
  replace b6 := b6.ext hU5
  replace hV3 := hV3.ext hU5
  replace hO2 := hO2.ext hU5
  replace hEW := hEW.trans hU5
  have hca := nstr_run (c := c2) hO2.sl h1.out.1
  have hcb := nstr_run (c := c) (h1.out.2.2.2.ext hEW) h1.out.1
  have k6 := b6.cell
  clear hU5 hXW
  go_wp2_with fail
  refine (lsame_any _ _ V V 40 _ hV3 hR5 hFV hFV (by omega)).mono ?_
  rintro e w6 ⟨rfl, hU⟩
  rw [decide_eq_true rfl]
  clear hca hcb k6
  replace b6 := b6.ext hU
  replace hV3 := hV3.ext hU
  replace hR5 := hR5.ext hU
  replace hO2 := hO2.ext hU
  replace hEW := hEW.trans hU
  clear hU
  go_wp2_with fail
  go_loopw [58] (fun i wx => ∃ (j : Nat) (zs : List (BitVec 8)), j ≤ n ∧ i = .int .i64 j ∧ zs.length = n ∧ Own wx w1.heap.size 5 A2 c2 (zs.map by8) ∧ Upd (inA A2) w6 wx) (fun i _ => n - (intOf i).toNat)
  case atStart => exact ⟨0, bs, Nat.zero_le _, rfl, h1.out.1, hO2, Upd.refl _ _⟩
  case round =>
    clear hO2
    obtain ⟨j, zs, hj, rfl, hzl, hO, hU⟩ := hrel
    have Hzl := hide hzl
    clear hzl
    by_cases hjn : j < n
    · obtain ⟨g, hA2, hg1, hg2⟩ := hO.open_ (by rw [List.length_map, Hzl.out]; omega)
      subst hA2
      have hcx := hO.row.cell (i := j) (by rw [Hzl.out]; exact hjn)
      go_wp2_with (refine wpList_store_own by8 one8 (gat zs j ^^^ 255#8) rfl rfl Try.n_sz8 rfl rfl hO (by rw [Hzl.out]; exact hjn) ?_; intro w7 hO7 hU7)
      go_roundw
      case rel => exact ⟨j + 1, _, by omega, by go_num, by rw [List.length_set]; exact Hzl.out, hO7, hU.trans' hU7 (fun i _ hi => by unfold only at hi; subst hi; simp [inA])⟩
      case measure => simp [intOf]; omega
    · obtain rfl : j = n := by omega
      have hT6 : ¬ inA A2 w3.heap.size := fun h => by have := hL2 _ h; omega
      have hT3 : ∀ k, inA A3 k → ¬ inA A2 k := fun k hk h => by have := hL2 _ h; have := hN3 k hk; omega
      have hT5 : ∀ k, inA A5 k → ¬ inA A2 k := fun k hk h => by have := hL2 _ h; have := hN5 k hk; omega
      replace b6 := b6.upd hU hT6
      replace hV3 := hV3.upd hU hT3
      replace hR5 := hR5.upd hU hT5
      have hEx : Ext w wr := Upd.fresh hU hEW hN2
      clear hO hU hEW hT6 hT3 hT5 hN2 hL2 hN3 hN5
      have k6 := b6.cell
      have hG : Ext wr wr := Upd.refl _ _
      -- a call: bytes_short _ V 40 s _ hV3 hFV (by omega) hbl2 its contract, w8 the world behind it, A8, c8, rfl, hl8, hO8 what is known (Ext last)
      go_wp2_with fail
      refine (bytes_short _ V 40 s _ hV3 hFV (by omega) hbl2).mono ?_
      rintro e w8 ⟨A8, c8, rfl, hl8, hO8, hU⟩
      replace hG := hG.trans hU
      clear hl8 hU
      -- a call: rbytes_short _ V 2000 s _ (hR5.ext hG) hbV (by omega) hbl2 its contract, w9 the world behind it, A9, c9, rfl, hl9, hO9 what is known (Ext last)
      go_wp2_with fail
      refine (rbytes_short _ V 2000 s _ (hR5.ext hG) hbV (by omega) hbl2).mono ?_
      rintro e w9 ⟨A9, c9, rfl, hl9, hO9, hU⟩
      replace hG := hG.trans hU
      replace hO8 := hO8.ext hU
      clear hl9
      replace k6 := (b6.ext hG).cell
      -- a call: lsame_any _ _ V V 40 _ (hV3.ext hG) (hR5.ext hG) hFV hFV (by omega) its contract, w10 the world behind it, rfl what is known (Ext last)
      go_wp2_with fail
      refine (lsame_any _ _ V V 40 _ (hV3.ext hG) (hR5.ext hG) hFV hFV (by omega)).mono ?_
      rintro e w10 ⟨rfl, hU⟩
      replace hG := hG.trans hU
      rw [decide_eq_true rfl]
      have hca := nstr_run (n := 0) (c := c8) (hO8.ext hU).sl rfl
      have hcb := nstr_run (n := 0) (c := c9) (hO9.ext hU).sl rfl
      go_wp2_with fail
      go_ret
      exact ⟨rfl, hEx.trans hG⟩
theorem nbytes_any (A : Option Addr) (n c : Nat) (bs : List (BitVec 8)) (size : Int) (w : World) (h1 : In8 w A n c bs) :
    Calls Try.prog 3 #[.slice A n c, .int .i64 size] w fun e w' => e = .returned (.bool true) ∧ Ext w w' := by
  have hm : n ≤ maxLen := Nat.le_trans h1.2.1 h1.2.2.1
  by_cases hs1 : 1000 < size
  · exact nbytes_size A n c size w hm hs1
  · by_cases hn1 : 1000 < n
    · exact nbytes_len A n c size w hm hs1 (by omega)
    · have key : ∃ V ec, Fit 40 V ∧ (∀ w' A' c', Sl by8 w' A' bs → Calls Try.prog 14 #[.slice A' n c'] w' (RetE1 w' V ec)) ∧ (∀ w', Ext w w' → Calls Try.prog 15 #[.slice A n c] w' (RetG1 w' V ec)) := by
        by_cases h128 : 128 < n
        · exact ⟨0, 4, by unfold Fit; decide, fun w' A' c' _ => from_long1 A' n c' w' h128, fun w' _ => rget_long1 A n c w' h128 hm⟩
        · refine ⟨ofB bs, 0, ?_, fun w' A' c' hS => from_new A' n c' bs w' h1.1 (by omega) hS, fun w' hu => rget_new A n c bs w' h1.1 (by omega) (h1.2.2.2.ext hu)⟩
          have h3 := ofB_lt bs
          unfold Fit
          refine Nat.lt_of_lt_of_le h3 ?_
          rw [show W32 ^ 40 = 256 ^ 160 by decide]
          exact Nat.pow_le_pow_right (by omega) (by have := h1.1; omega)
      obtain ⟨V, ec, hFV, HF, HG⟩ := key
      rcases Int.lt_or_le size 0 with hs | hs
      · exact nbytes_neg A n c V ec bs size w (hide h1) (by omega) hs1 hFV (hide HF) (hide HG) hs
      · by_cases hbl : bytelen V ≤ size.toNat
        · exact nbytes_yes A n c V ec bs size w (hide h1) (by omega) hs1 hFV (hide HF) (hide HG) hs hbl
        · exact nbytes_no A n c V ec bs size w (hide h1) (by omega) hs1 hFV (hide HF) (hide HG) hs (by omega)
end Go.Proofs.Ytekpjdfgpggcnaa
