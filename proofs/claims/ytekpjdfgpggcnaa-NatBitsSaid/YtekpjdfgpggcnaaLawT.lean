/- The law on a number's bits and on the order of two, walked. -/
import Derived.Test.YtekpjdfgpggcnaaLawM
namespace Go.Proofs.Ytekpjdfgpggcnaa
open Go.RowKit
open Nt
attribute [local go_sem] steady steadyUpon Cls same_cell by8 str_eq


set_option maxRecDepth 100000 in
set_option maxHeartbeats 4000000 in
theorem nbits_neg (A B : Option Addr) (n c m d x y : Nat) (i : Int) (w : World) (hi : -9223372036854775808 ≤ i ∧ i ≤ 9223372036854775807) (hFx : Fit 12 x) (hFy : Fit 12 y) (N1 : Hid (∀ w', Ext w w' → Calls Try.prog 19 #[.slice A n c] w' (RetN w' x))) (R1 : Hid (∀ w', Ext w w' → Calls Try.prog 20 #[.slice A n c] w' (RetR w' x)))
    (N2 : Hid (∀ w', Ext w w' → Calls Try.prog 19 #[.slice B m d] w' (RetN w' y))) (R2 : Hid (∀ w', Ext w w' → Calls Try.prog 20 #[.slice B m d] w' (RetR w' y))) (h0 : i < 0) :
    Calls Try.prog 4 #[.slice A n c, .slice B m d, .int .i64 i] w fun e w' => e = .returned (.bool true) ∧ Ext w w' := by
  have Hbit : Hid ((if 0 ≤ i then ((x / 2 ^ i.toNat % 2 : Nat) : Int) else (0 : Int)) = 0) := hide (if_neg (by omega))
  go_enter Try.func4, Try.ntmps4
  go_wp2_with fail
  refine (nlives_any _).mono ?_
  rintro e w1 ⟨rfl, hE⟩
  go_wp2_with fail
  refine (N1.out _ hE).mono ?_
  rintro e w2 ⟨A1, l1, c1, rfl, hVx, hU⟩
  replace hE := hE.trans hU
  go_wp2_with fail
  refine (N2.out _ hE).mono ?_
  rintro e w3 ⟨A2, l2, c2, rfl, hVy, hU⟩
  replace hE := hE.trans hU
  replace hVx := hVx.ext hU
  go_wp2_with fail
  refine (R1.out _ hE).mono ?_
  rintro e w4 ⟨A7, l7, c7, rfl, hRx, hU⟩
  replace hE := hE.trans hU
  replace hVx := hVx.ext hU
  replace hVy := hVy.ext hU
  go_wp2_with fail
  refine (R2.out _ hE).mono ?_
  rintro e w5 ⟨A8, l8, c8, rfl, hRy, hU⟩
  replace hE := hE.trans hU
  replace hVx := hVx.ext hU
  replace hVy := hVy.ext hU
  replace hRx := hRx.ext hU
  clear hU
  obtain ⟨A7', l7', c7', xs, e7, hxl, hxc, hxm, hSx, hTx, hnx⟩ := hRx.open_
  injection e7 with e71 e72 e73
  subst e71 e72 e73
  have hlx : l7 = blen x := by have := bits_len (hxl ▸ hTx); rw [hnx, hxl] at this; exact this
  have Hxl := hide hxl
  have Hnx := hide hnx
  have Hlx := hide hlx
  have hl5 : l7 ≤ 400 := by have := Fit.blen hFx; omega
  have hx0 : (((l7 : Nat) : Int) == 0) = decide (x = 0) := by
    rw [Bool.eq_iff_iff, beq_iff_eq, decide_eq_true_eq]
    have := blen_eq_zero (n := x)
    omega
  clear hxl hnx hlx hxc hxm hTx
  have h0' : ¬ 0 ≤ i := by omega
  go_wp2_with fail
  clear h0'
  -- $1 the bit's value as an Int
  refine name_c (fun W hW => ?_)
  -- W = the world with the two numbers in blocks
  have b5 : Box W w5.heap.size 26 (.slice A1 l1 c1) := by rw [hW]; exact Box.alloc (Box.new _ _ _) _
  have b6 : Box W (w5.heap.size + 1) 26 (.slice A2 l2 c2) := by rw [hW]; exact Box.new_at (by simp)
  have hEW : Ext w W := by rw [hW]; exact (hE.alloc _).alloc _
  have hXW : Ext w5 W := by rw [hW]; exact ((Upd.refl _ _).alloc _).alloc _
  replace hVx := hVx.ext hXW
  replace hVy := hVy.ext hXW
  replace hRx := hRx.ext hXW
  replace hRy := hRy.ext hXW
  clear hW hE hXW
  have hG : Ext W W := Upd.refl _ _
  have k5 := b5.cell
  have k6 := b6.cell
  refine (bits_any _ x 12 _ hVx hFx (by omega)).mono ?_
  rintro e w6 ⟨rfl, hU⟩
  replace hG := hG.trans hU
  rw [← Hlx.out]
  replace k5 := (b5.ext hG).cell
  -- a call: bit_any _ x 12 _ _ (hVx.ext hG) hFx (by omega) hi its contract, w7 the world behind it, rfl what is known (Ext last)
  go_wp2_with fail
  refine (bit_any _ x 12 _ _ (hVx.ext hG) hFx (by omega) hi).mono ?_
  rintro e w7 ⟨rfl, hU⟩
  replace hG := hG.trans hU
  rw [Hbit.out]
  replace k5 := (b5.ext hG).cell
  -- a call: zero_any _ x _ (hVx.ext hG) its contract, w8 the world behind it, rfl what is known (Ext last)
  go_wp2_with fail
  refine (zero_any _ x _ (hVx.ext hG)).mono ?_
  rintro e w8 ⟨rfl, hU⟩
  replace hG := hG.trans hU
  replace k5 := (b5.ext hG).cell
  replace k6 := (b6.ext hG).cell
  -- a call: cmp_any _ _ x y 12 _ (hVx.ext hG) (hVy.ext hG) hFx hFy (by omega) its contract, w9 the world behind it, rfl what is known (Ext last)
  go_wp2_with fail
  refine (cmp_any _ _ x y 12 _ (hVx.ext hG) (hVy.ext hG) hFx hFy (by omega)).mono ?_
  rintro e w9 ⟨rfl, hU⟩
  replace hG := hG.trans hU
  -- a call: rcmp_any _ _ x y 400 _ (hRx.ext hG) (hRy.ext hG) (by have := Fit.blen hFx; omega) (by have := Fit.blen hFy; omega) (by omega) its contract, w10 the world behind it, rfl what is known (Ext last)
  go_wp2_with fail
  refine (rcmp_any _ _ x y 400 _ (hRx.ext hG) (hRy.ext hG) (by have := Fit.blen hFx; omega) (by have := Fit.blen hFy; omega) (by omega)).mono ?_
  rintro e w10 ⟨rfl, hU⟩
  replace hG := hG.trans hU
  go_wp2_with fail
  go_ret
  exact ⟨rfl, hEW.trans hG⟩
set_option maxRecDepth 100000 in
set_option maxHeartbeats 4000000 in
theorem nbits_far (A B : Option Addr) (n c m d x y : Nat) (i : Int) (w : World) (hi : -9223372036854775808 ≤ i ∧ i ≤ 9223372036854775807) (hFx : Fit 12 x) (hFy : Fit 12 y) (N1 : Hid (∀ w', Ext w w' → Calls Try.prog 19 #[.slice A n c] w' (RetN w' x))) (R1 : Hid (∀ w', Ext w w' → Calls Try.prog 20 #[.slice A n c] w' (RetR w' x)))
    (N2 : Hid (∀ w', Ext w w' → Calls Try.prog 19 #[.slice B m d] w' (RetN w' y))) (R2 : Hid (∀ w', Ext w w' → Calls Try.prog 20 #[.slice B m d] w' (RetR w' y))) (h0 : 0 ≤ i) (h1 : (blen x : Int) ≤ i) :
    Calls Try.prog 4 #[.slice A n c, .slice B m d, .int .i64 i] w fun e w' => e = .returned (.bool true) ∧ Ext w w' := by
  have Hbit : Hid ((if 0 ≤ i then ((x / 2 ^ i.toNat % 2 : Nat) : Int) else (0 : Int)) = 0) := hide (by
    rw [if_pos h0]
    have h2 : x < 2 ^ i.toNat := Nat.lt_of_lt_of_le (blen_lt x) (Nat.pow_le_pow_right (by omega) (by omega))
    rw [Nat.div_eq_of_lt h2]; rfl)
  go_enter Try.func4, Try.ntmps4
  go_wp2_with fail
  refine (nlives_any _).mono ?_
  rintro e w1 ⟨rfl, hE⟩
  go_wp2_with fail
  refine (N1.out _ hE).mono ?_
  rintro e w2 ⟨A1, l1, c1, rfl, hVx, hU⟩
  replace hE := hE.trans hU
  go_wp2_with fail
  refine (N2.out _ hE).mono ?_
  rintro e w3 ⟨A2, l2, c2, rfl, hVy, hU⟩
  replace hE := hE.trans hU
  replace hVx := hVx.ext hU
  go_wp2_with fail
  refine (R1.out _ hE).mono ?_
  rintro e w4 ⟨A7, l7, c7, rfl, hRx, hU⟩
  replace hE := hE.trans hU
  replace hVx := hVx.ext hU
  replace hVy := hVy.ext hU
  go_wp2_with fail
  refine (R2.out _ hE).mono ?_
  rintro e w5 ⟨A8, l8, c8, rfl, hRy, hU⟩
  replace hE := hE.trans hU
  replace hVx := hVx.ext hU
  replace hVy := hVy.ext hU
  replace hRx := hRx.ext hU
  clear hU
  obtain ⟨A7', l7', c7', xs, e7, hxl, hxc, hxm, hSx, hTx, hnx⟩ := hRx.open_
  injection e7 with e71 e72 e73
  subst e71 e72 e73
  have hlx : l7 = blen x := by have := bits_len (hxl ▸ hTx); rw [hnx, hxl] at this; exact this
  have Hxl := hide hxl
  have Hnx := hide hnx
  have Hlx := hide hlx
  have hl5 : l7 ≤ 400 := by have := Fit.blen hFx; omega
  have hx0 : (((l7 : Nat) : Int) == 0) = decide (x = 0) := by
    rw [Bool.eq_iff_iff, beq_iff_eq, decide_eq_true_eq]
    have := blen_eq_zero (n := x)
    omega
  clear hxl hnx hlx hxc hxm hTx
  have h1' : ¬ i < (l7 : Int) := by have := Hlx.out; omega
  clear h1
  go_wp2_with fail
  clear h1'
  -- $1 the bit's value as an Int
  refine name_c (fun W hW => ?_)
  -- W = the world with the two numbers in blocks
  have b5 : Box W w5.heap.size 26 (.slice A1 l1 c1) := by rw [hW]; exact Box.alloc (Box.new _ _ _) _
  have b6 : Box W (w5.heap.size + 1) 26 (.slice A2 l2 c2) := by rw [hW]; exact Box.new_at (by simp)
  have hEW : Ext w W := by rw [hW]; exact (hE.alloc _).alloc _
  have hXW : Ext w5 W := by rw [hW]; exact ((Upd.refl _ _).alloc _).alloc _
  replace hVx := hVx.ext hXW
  replace hVy := hVy.ext hXW
  replace hRx := hRx.ext hXW
  replace hRy := hRy.ext hXW
  clear hW hE hXW
  have hG : Ext W W := Upd.refl _ _
  have k5 := b5.cell
  have k6 := b6.cell
  refine (bits_any _ x 12 _ hVx hFx (by omega)).mono ?_
  rintro e w6 ⟨rfl, hU⟩
  replace hG := hG.trans hU
  rw [← Hlx.out]
  replace k5 := (b5.ext hG).cell
  -- a call: bit_any _ x 12 _ _ (hVx.ext hG) hFx (by omega) hi its contract, w7 the world behind it, rfl what is known (Ext last)
  go_wp2_with fail
  refine (bit_any _ x 12 _ _ (hVx.ext hG) hFx (by omega) hi).mono ?_
  rintro e w7 ⟨rfl, hU⟩
  replace hG := hG.trans hU
  rw [Hbit.out]
  replace k5 := (b5.ext hG).cell
  -- a call: zero_any _ x _ (hVx.ext hG) its contract, w8 the world behind it, rfl what is known (Ext last)
  go_wp2_with fail
  refine (zero_any _ x _ (hVx.ext hG)).mono ?_
  rintro e w8 ⟨rfl, hU⟩
  replace hG := hG.trans hU
  replace k5 := (b5.ext hG).cell
  replace k6 := (b6.ext hG).cell
  -- a call: cmp_any _ _ x y 12 _ (hVx.ext hG) (hVy.ext hG) hFx hFy (by omega) its contract, w9 the world behind it, rfl what is known (Ext last)
  go_wp2_with fail
  refine (cmp_any _ _ x y 12 _ (hVx.ext hG) (hVy.ext hG) hFx hFy (by omega)).mono ?_
  rintro e w9 ⟨rfl, hU⟩
  replace hG := hG.trans hU
  -- a call: rcmp_any _ _ x y 400 _ (hRx.ext hG) (hRy.ext hG) (by have := Fit.blen hFx; omega) (by have := Fit.blen hFy; omega) (by omega) its contract, w10 the world behind it, rfl what is known (Ext last)
  go_wp2_with fail
  refine (rcmp_any _ _ x y 400 _ (hRx.ext hG) (hRy.ext hG) (by have := Fit.blen hFx; omega) (by have := Fit.blen hFy; omega) (by omega)).mono ?_
  rintro e w10 ⟨rfl, hU⟩
  replace hG := hG.trans hU
  go_wp2_with fail
  go_ret
  exact ⟨rfl, hEW.trans hG⟩
set_option maxRecDepth 100000 in
set_option maxHeartbeats 4000000 in
theorem nbits_yes (A B : Option Addr) (n c m d x y : Nat) (i : Int) (w : World) (hi : -9223372036854775808 ≤ i ∧ i ≤ 9223372036854775807) (hFx : Fit 12 x) (hFy : Fit 12 y) (N1 : Hid (∀ w', Ext w w' → Calls Try.prog 19 #[.slice A n c] w' (RetN w' x))) (R1 : Hid (∀ w', Ext w w' → Calls Try.prog 20 #[.slice A n c] w' (RetR w' x)))
    (N2 : Hid (∀ w', Ext w w' → Calls Try.prog 19 #[.slice B m d] w' (RetN w' y))) (R2 : Hid (∀ w', Ext w w' → Calls Try.prog 20 #[.slice B m d] w' (RetR w' y))) (h0 : 0 ≤ i) (h1 : i < (blen x : Int)) (hb : x / 2 ^ i.toNat % 2 = 1) :
    Calls Try.prog 4 #[.slice A n c, .slice B m d, .int .i64 i] w fun e w' => e = .returned (.bool true) ∧ Ext w w' := by
  -- true the truth, 1 the value
  have Hbit : Hid ((if 0 ≤ i then ((x / 2 ^ i.toNat % 2 : Nat) : Int) else (0 : Int)) = (1 : Int)) := hide (by rw [if_pos h0, hb]; rfl)
  have HB := hide hb
  clear hb
  obtain ⟨j, rfl⟩ : ∃ j : Nat, i = (j : Int) := ⟨i.toNat, by omega⟩
  rw [show ((j : Nat) : Int).toNat = j by omega] at HB
  go_enter Try.func4, Try.ntmps4
  go_wp2_with fail
  refine (nlives_any _).mono ?_
  rintro e w1 ⟨rfl, hE⟩
  go_wp2_with fail
  refine (N1.out _ hE).mono ?_
  rintro e w2 ⟨A1, l1, c1, rfl, hVx, hU⟩
  replace hE := hE.trans hU
  go_wp2_with fail
  refine (N2.out _ hE).mono ?_
  rintro e w3 ⟨A2, l2, c2, rfl, hVy, hU⟩
  replace hE := hE.trans hU
  replace hVx := hVx.ext hU
  go_wp2_with fail
  refine (R1.out _ hE).mono ?_
  rintro e w4 ⟨A7, l7, c7, rfl, hRx, hU⟩
  replace hE := hE.trans hU
  replace hVx := hVx.ext hU
  replace hVy := hVy.ext hU
  go_wp2_with fail
  refine (R2.out _ hE).mono ?_
  rintro e w5 ⟨A8, l8, c8, rfl, hRy, hU⟩
  replace hE := hE.trans hU
  replace hVx := hVx.ext hU
  replace hVy := hVy.ext hU
  replace hRx := hRx.ext hU
  clear hU
  obtain ⟨A7', l7', c7', xs, e7, hxl, hxc, hxm, hSx, hTx, hnx⟩ := hRx.open_
  injection e7 with e71 e72 e73
  subst e71 e72 e73
  have hlx : l7 = blen x := by have := bits_len (hxl ▸ hTx); rw [hnx, hxl] at this; exact this
  have Hxl := hide hxl
  have Hnx := hide hnx
  have Hlx := hide hlx
  have hl5 : l7 ≤ 400 := by have := Fit.blen hFx; omega
  have hx0 : (((l7 : Nat) : Int) == 0) = decide (x = 0) := by
    rw [Bool.eq_iff_iff, beq_iff_eq, decide_eq_true_eq]
    have := blen_eq_zero (n := x)
    omega
  clear hxl hnx hlx hxc hxm hTx
  have h1' : (j : Int) < (l7 : Int) := by have := Hlx.out; omega
  have hjl : j < l7 := by omega
  clear h1
  obtain ⟨b9, o9, hA9, hbl9, hcells⟩ := hSx.open_ (by rw [Hxl.out]; omega)
  subst hA9
  clear hSx
  have hgb : gat xs j = true := by
    have h2 := vf_digit (β := 2) (f := dig d1 xs) (by decide) (n := l7) (i := j) (fun i _ => d1_lt _) hjl
    rw [show vf 2 (dig d1 xs) l7 = x by have := Hnx.out; unfold numOf at this; rw [Hxl.out] at this; exact this, HB.out] at h2
    unfold dig at h2
    cases hg : gat xs j
    · rw [hg] at h2 <;> first | rfl | (exact absurd h2 (by decide))
    · rw [hg] at h2 <;> first | rfl | (exact absurd h2 (by decide))
  have hcell := hcells j (by rw [Hxl.out]; exact hjl)
  rw [hgb] at hcell
  have hcell2 := (Upd.cellv (((Upd.refl _ w5).alloc (.cells #[.slice A1 l1 c1] 26)).alloc (.cells #[.slice A2 l2 c2] 26)) hcell)
  have Hgb := hide hgb
  clear hcells hgb hcell
  go_wp2_with fail
  clear h1' hjl hcell2
  -- $1 the bit's value as an Int
  refine name_c (fun W hW => ?_)
  -- W = the world with the two numbers in blocks
  have b5 : Box W w5.heap.size 26 (.slice A1 l1 c1) := by rw [hW]; exact Box.alloc (Box.new _ _ _) _
  have b6 : Box W (w5.heap.size + 1) 26 (.slice A2 l2 c2) := by rw [hW]; exact Box.new_at (by simp)
  have hEW : Ext w W := by rw [hW]; exact (hE.alloc _).alloc _
  have hXW : Ext w5 W := by rw [hW]; exact ((Upd.refl _ _).alloc _).alloc _
  replace hVx := hVx.ext hXW
  replace hVy := hVy.ext hXW
  replace hRx := hRx.ext hXW
  replace hRy := hRy.ext hXW
  clear hW hE hXW
  have hG : Ext W W := Upd.refl _ _
  have k5 := b5.cell
  have k6 := b6.cell
  refine (bits_any _ x 12 _ hVx hFx (by omega)).mono ?_
  rintro e w6 ⟨rfl, hU⟩
  replace hG := hG.trans hU
  rw [← Hlx.out]
  replace k5 := (b5.ext hG).cell
  -- a call: bit_any _ x 12 _ _ (hVx.ext hG) hFx (by omega) hi its contract, w7 the world behind it, rfl what is known (Ext last)
  go_wp2_with fail
  refine (bit_any _ x 12 _ _ (hVx.ext hG) hFx (by omega) hi).mono ?_
  rintro e w7 ⟨rfl, hU⟩
  replace hG := hG.trans hU
  rw [Hbit.out]
  replace k5 := (b5.ext hG).cell
  -- a call: zero_any _ x _ (hVx.ext hG) its contract, w8 the world behind it, rfl what is known (Ext last)
  go_wp2_with fail
  refine (zero_any _ x _ (hVx.ext hG)).mono ?_
  rintro e w8 ⟨rfl, hU⟩
  replace hG := hG.trans hU
  replace k5 := (b5.ext hG).cell
  replace k6 := (b6.ext hG).cell
  -- a call: cmp_any _ _ x y 12 _ (hVx.ext hG) (hVy.ext hG) hFx hFy (by omega) its contract, w9 the world behind it, rfl what is known (Ext last)
  go_wp2_with fail
  refine (cmp_any _ _ x y 12 _ (hVx.ext hG) (hVy.ext hG) hFx hFy (by omega)).mono ?_
  rintro e w9 ⟨rfl, hU⟩
  replace hG := hG.trans hU
  -- a call: rcmp_any _ _ x y 400 _ (hRx.ext hG) (hRy.ext hG) (by have := Fit.blen hFx; omega) (by have := Fit.blen hFy; omega) (by omega) its contract, w10 the world behind it, rfl what is known (Ext last)
  go_wp2_with fail
  refine (rcmp_any _ _ x y 400 _ (hRx.ext hG) (hRy.ext hG) (by have := Fit.blen hFx; omega) (by have := Fit.blen hFy; omega) (by omega)).mono ?_
  rintro e w10 ⟨rfl, hU⟩
  replace hG := hG.trans hU
  go_wp2_with fail
  go_ret
  exact ⟨rfl, hEW.trans hG⟩
set_option maxRecDepth 100000 in
set_option maxHeartbeats 4000000 in
theorem nbits_no (A B : Option Addr) (n c m d x y : Nat) (i : Int) (w : World) (hi : -9223372036854775808 ≤ i ∧ i ≤ 9223372036854775807) (hFx : Fit 12 x) (hFy : Fit 12 y) (N1 : Hid (∀ w', Ext w w' → Calls Try.prog 19 #[.slice A n c] w' (RetN w' x))) (R1 : Hid (∀ w', Ext w w' → Calls Try.prog 20 #[.slice A n c] w' (RetR w' x)))
    (N2 : Hid (∀ w', Ext w w' → Calls Try.prog 19 #[.slice B m d] w' (RetN w' y))) (R2 : Hid (∀ w', Ext w w' → Calls Try.prog 20 #[.slice B m d] w' (RetR w' y))) (h0 : 0 ≤ i) (h1 : i < (blen x : Int)) (hb : x / 2 ^ i.toNat % 2 = 0) :
    Calls Try.prog 4 #[.slice A n c, .slice B m d, .int .i64 i] w fun e w' => e = .returned (.bool true) ∧ Ext w w' := by
  -- false the truth, 0 the value
  have Hbit : Hid ((if 0 ≤ i then ((x / 2 ^ i.toNat % 2 : Nat) : Int) else (0 : Int)) = (0 : Int)) := hide (by rw [if_pos h0, hb]; rfl)
  have HB := hide hb
  clear hb
  obtain ⟨j, rfl⟩ : ∃ j : Nat, i = (j : Int) := ⟨i.toNat, by omega⟩
  rw [show ((j : Nat) : Int).toNat = j by omega] at HB
  go_enter Try.func4, Try.ntmps4
  go_wp2_with fail
  refine (nlives_any _).mono ?_
  rintro e w1 ⟨rfl, hE⟩
  go_wp2_with fail
  refine (N1.out _ hE).mono ?_
  rintro e w2 ⟨A1, l1, c1, rfl, hVx, hU⟩
  replace hE := hE.trans hU
  go_wp2_with fail
  refine (N2.out _ hE).mono ?_
  rintro e w3 ⟨A2, l2, c2, rfl, hVy, hU⟩
  replace hE := hE.trans hU
  replace hVx := hVx.ext hU
  go_wp2_with fail
  refine (R1.out _ hE).mono ?_
  rintro e w4 ⟨A7, l7, c7, rfl, hRx, hU⟩
  replace hE := hE.trans hU
  replace hVx := hVx.ext hU
  replace hVy := hVy.ext hU
  go_wp2_with fail
  refine (R2.out _ hE).mono ?_
  rintro e w5 ⟨A8, l8, c8, rfl, hRy, hU⟩
  replace hE := hE.trans hU
  replace hVx := hVx.ext hU
  replace hVy := hVy.ext hU
  replace hRx := hRx.ext hU
  clear hU
  obtain ⟨A7', l7', c7', xs, e7, hxl, hxc, hxm, hSx, hTx, hnx⟩ := hRx.open_
  injection e7 with e71 e72 e73
  subst e71 e72 e73
  have hlx : l7 = blen x := by have := bits_len (hxl ▸ hTx); rw [hnx, hxl] at this; exact this
  have Hxl := hide hxl
  have Hnx := hide hnx
  have Hlx := hide hlx
  have hl5 : l7 ≤ 400 := by have := Fit.blen hFx; omega
  have hx0 : (((l7 : Nat) : Int) == 0) = decide (x = 0) := by
    rw [Bool.eq_iff_iff, beq_iff_eq, decide_eq_true_eq]
    have := blen_eq_zero (n := x)
    omega
  clear hxl hnx hlx hxc hxm hTx
  have h1' : (j : Int) < (l7 : Int) := by have := Hlx.out; omega
  have hjl : j < l7 := by omega
  clear h1
  obtain ⟨b9, o9, hA9, hbl9, hcells⟩ := hSx.open_ (by rw [Hxl.out]; omega)
  subst hA9
  clear hSx
  have hgb : gat xs j = false := by
    have h2 := vf_digit (β := 2) (f := dig d1 xs) (by decide) (n := l7) (i := j) (fun i _ => d1_lt _) hjl
    rw [show vf 2 (dig d1 xs) l7 = x by have := Hnx.out; unfold numOf at this; rw [Hxl.out] at this; exact this, HB.out] at h2
    unfold dig at h2
    cases hg : gat xs j
    · rw [hg] at h2 <;> first | rfl | (exact absurd h2 (by decide))
    · rw [hg] at h2 <;> first | rfl | (exact absurd h2 (by decide))
  have hcell := hcells j (by rw [Hxl.out]; exact hjl)
  rw [hgb] at hcell
  have hcell2 := (Upd.cellv (((Upd.refl _ w5).alloc (.cells #[.slice A1 l1 c1] 26)).alloc (.cells #[.slice A2 l2 c2] 26)) hcell)
  have Hgb := hide hgb
  clear hcells hgb hcell
  go_wp2_with fail
  clear h1' hjl hcell2
  -- $1 the bit's value as an Int
  refine name_c (fun W hW => ?_)
  -- W = the world with the two numbers in blocks
  have b5 : Box W w5.heap.size 26 (.slice A1 l1 c1) := by rw [hW]; exact Box.alloc (Box.new _ _ _) _
  have b6 : Box W (w5.heap.size + 1) 26 (.slice A2 l2 c2) := by rw [hW]; exact Box.new_at (by simp)
  have hEW : Ext w W := by rw [hW]; exact (hE.alloc _).alloc _
  have hXW : Ext w5 W := by rw [hW]; exact ((Upd.refl _ _).alloc _).alloc _
  replace hVx := hVx.ext hXW
  replace hVy := hVy.ext hXW
  replace hRx := hRx.ext hXW
  replace hRy := hRy.ext hXW
  clear hW hE hXW
  have hG : Ext W W := Upd.refl _ _
  have k5 := b5.cell
  have k6 := b6.cell
  refine (bits_any _ x 12 _ hVx hFx (by omega)).mono ?_
  rintro e w6 ⟨rfl, hU⟩
  replace hG := hG.trans hU
  rw [← Hlx.out]
  replace k5 := (b5.ext hG).cell
  -- a call: bit_any _ x 12 _ _ (hVx.ext hG) hFx (by omega) hi its contract, w7 the world behind it, rfl what is known (Ext last)
  go_wp2_with fail
  refine (bit_any _ x 12 _ _ (hVx.ext hG) hFx (by omega) hi).mono ?_
  rintro e w7 ⟨rfl, hU⟩
  replace hG := hG.trans hU
  rw [Hbit.out]
  replace k5 := (b5.ext hG).cell
  -- a call: zero_any _ x _ (hVx.ext hG) its contract, w8 the world behind it, rfl what is known (Ext last)
  go_wp2_with fail
  refine (zero_any _ x _ (hVx.ext hG)).mono ?_
  rintro e w8 ⟨rfl, hU⟩
  replace hG := hG.trans hU
  replace k5 := (b5.ext hG).cell
  replace k6 := (b6.ext hG).cell
  -- a call: cmp_any _ _ x y 12 _ (hVx.ext hG) (hVy.ext hG) hFx hFy (by omega) its contract, w9 the world behind it, rfl what is known (Ext last)
  go_wp2_with fail
  refine (cmp_any _ _ x y 12 _ (hVx.ext hG) (hVy.ext hG) hFx hFy (by omega)).mono ?_
  rintro e w9 ⟨rfl, hU⟩
  replace hG := hG.trans hU
  -- a call: rcmp_any _ _ x y 400 _ (hRx.ext hG) (hRy.ext hG) (by have := Fit.blen hFx; omega) (by have := Fit.blen hFy; omega) (by omega) its contract, w10 the world behind it, rfl what is known (Ext last)
  go_wp2_with fail
  refine (rcmp_any _ _ x y 400 _ (hRx.ext hG) (hRy.ext hG) (by have := Fit.blen hFx; omega) (by have := Fit.blen hFy; omega) (by omega)).mono ?_
  rintro e w10 ⟨rfl, hU⟩
  replace hG := hG.trans hU
  go_wp2_with fail
  go_ret
  exact ⟨rfl, hEW.trans hG⟩
theorem nbits_any (A B : Option Addr) (n c m d : Nat) (bs cs : List (BitVec 8)) (i : Int) (w : World) (hi : -9223372036854775808 ≤ i ∧ i ≤ 9223372036854775807) (h1 : In8 w A n c bs) (h2 : In8 w B m d cs) :
    Calls Try.prog 4 #[.slice A n c, .slice B m d, .int .i64 i] w fun e w' => e = .returned (.bool true) ∧ Ext w w' := by
  obtain ⟨x, hFx, N1, R1⟩ := in_num h1
  obtain ⟨y, hFy, N2, R2⟩ := in_num h2
  by_cases h0 : i < 0
  · exact nbits_neg A B n c m d x y i w hi hFx hFy N1 R1 N2 R2 h0
  · by_cases h3 : (blen x : Int) ≤ i
    · exact nbits_far A B n c m d x y i w hi hFx hFy N1 R1 N2 R2 (by omega) h3
    · rcases Nat.mod_two_eq_zero_or_one (x / 2 ^ i.toNat) with hb | hb
      · exact nbits_no A B n c m d x y i w hi hFx hFy N1 R1 N2 R2 (by omega) (by omega) hb
      · exact nbits_yes A B n c m d x y i w hi hFx hFy N1 R1 N2 R2 (by omega) (by omega) hb
end Go.Proofs.Ytekpjdfgpggcnaa
