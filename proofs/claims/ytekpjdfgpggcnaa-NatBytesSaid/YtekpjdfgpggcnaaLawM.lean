/- The law on small numbers, walked. -/
import Derived.Test.YtekpjdfgpggcnaaLawB
namespace Go.Proofs.Ytekpjdfgpggcnaa
open Go.RowKit
open Nt
attribute [local go_sem] steady steadyUpon Cls same_cell by8 str_eq


theorem ref_len {w : World} {A : Option Addr} {l c n : Nat} (h : RefV w (.slice A l c) n) : l = blen n := by
  obtain ⟨A', l', c', xs, e, h1, -, -, -, h2, h3⟩ := h.open_
  injection e with e1 e2 e3
  subst e2
  have := bits_len (h1 ▸ h2)
  rw [h3, h1] at this
  exact this
set_option maxRecDepth 100000 in
set_option maxHeartbeats 4000000 in
theorem nsmall_yes (A : Option Addr) (n c N x : Nat) (w : World) (hN : Hid (N < 18446744073709551616)) (hFx : Fit 12 x) (N1 : Hid (∀ w', Ext w w' → Calls Try.prog 19 #[.slice A n c] w' (RetN w' x))) (R1 : Hid (∀ w', Ext w w' → Calls Try.prog 20 #[.slice A n c] w' (RetR w' x))) (hx : Hid (x < 18446744073709551616)) :
    Calls Try.prog 6 #[.int .u64 N, .slice A n c] w fun e w' => e = .returned (.bool true) ∧ Ext w w' := by
  go_enter Try.func6, Try.ntmps6
  go_wp2_with fail
  refine (nlives_any _).mono ?_
  rintro e w1 ⟨rfl, hE⟩
  go_wp2_with fail
  refine (new_any N _ hN.out).mono ?_
  rintro e w2 ⟨A1, l1, c1, rfl, hV1, hU⟩
  replace hE := hE.trans hU
  go_wp2_with fail
  refine (uint_any _ N _ hV1).mono ?_
  rintro e w3 ⟨rfl, hU⟩
  replace hE := hE.trans hU
  rw [if_pos hN.out, decide_eq_true hN.out]
  go_wp2_with fail
  refine (N1.out _ hE).mono ?_
  rintro e w4 ⟨A2, l2, c2, rfl, hV2, hU⟩
  replace hE := hE.trans hU
  go_wp2_with fail
  refine (uint_any _ x _ hV2).mono ?_
  rintro e w5 ⟨rfl, hU⟩
  replace hE := hE.trans hU
  rw [if_pos hx.out, decide_eq_true hx.out]
  go_wp2_with fail
  refine (R1.out _ hE).mono ?_
  rintro e w6 ⟨A3, l3, c3, rfl, hR3, hU⟩
  replace hE := hE.trans hU
  have Hl3 := hide (ref_len hR3)
  have HR3 := hide hR3
  clear hR3
  go_wp2_with fail
  refine (new_any N _ hN.out).mono ?_
  rintro e w7 ⟨A4, l4, c4, rfl, hV4, hU⟩
  replace hE := hE.trans hU
  have HR4 := hide (HR3.out.ext hU)
  go_wp2_with fail
  refine (rsmall_any N _ hN.out).mono ?_
  rintro e w8 ⟨A5, l5, c5, rfl, hR5, hU⟩
  replace hE := hE.trans hU
  have HR5 := hide (HR4.out.ext hU)
  go_wp2_with fail
  refine (lsame_any _ _ N N 12 _ (hV4.ext hU) hR5 (by unfold Fit; have := hN.out; exact Nat.lt_of_lt_of_le this (by decide)) (by unfold Fit; have := hN.out; exact Nat.lt_of_lt_of_le this (by decide)) (by omega)).mono ?_
  rintro e w9 ⟨rfl, hU⟩
  replace hE := hE.trans hU
  rw [decide_eq_true rfl]
  have HR6 := hide (HR5.out.ext hU)
  have h64 : (l3 : Int) ≤ 64 := by
    have : blen x ≤ 64 := blen_le_iff.2 hx.out
    have := Hl3.out
    omega
  go_wp2_with fail
  refine (new_any x _ hx.out).mono ?_
  rintro e w10 ⟨A6, l6, c6, rfl, hV6, hU⟩
  replace hE := hE.trans hU
  go_wp2_with fail
  refine (lsame_any _ _ x x 12 _ hV6 (HR6.out.ext hU) hFx hFx (by omega)).mono ?_
  rintro e w11 ⟨rfl, hU⟩
  replace hE := hE.trans hU
  rw [decide_eq_true rfl]
  go_wp2_with fail
  go_ret
  exact ⟨rfl, hE⟩
set_option maxRecDepth 100000 in
set_option maxHeartbeats 4000000 in
theorem nsmall_no (A : Option Addr) (n c N x : Nat) (w : World) (hN : Hid (N < 18446744073709551616)) (hFx : Fit 12 x) (N1 : Hid (∀ w', Ext w w' → Calls Try.prog 19 #[.slice A n c] w' (RetN w' x))) (R1 : Hid (∀ w', Ext w w' → Calls Try.prog 20 #[.slice A n c] w' (RetR w' x))) (hx : Hid (¬ x < 18446744073709551616)) :
    Calls Try.prog 6 #[.int .u64 N, .slice A n c] w fun e w' => e = .returned (.bool true) ∧ Ext w w' := by
  go_enter Try.func6, Try.ntmps6
  go_wp2_with fail
  refine (nlives_any _).mono ?_
  rintro e w1 ⟨rfl, hE⟩
  go_wp2_with fail
  refine (new_any N _ hN.out).mono ?_
  rintro e w2 ⟨A1, l1, c1, rfl, hV1, hU⟩
  replace hE := hE.trans hU
  go_wp2_with fail
  refine (uint_any _ N _ hV1).mono ?_
  rintro e w3 ⟨rfl, hU⟩
  replace hE := hE.trans hU
  rw [if_pos hN.out, decide_eq_true hN.out]
  go_wp2_with fail
  refine (N1.out _ hE).mono ?_
  rintro e w4 ⟨A2, l2, c2, rfl, hV2, hU⟩
  replace hE := hE.trans hU
  go_wp2_with fail
  refine (uint_any _ x _ hV2).mono ?_
  rintro e w5 ⟨rfl, hU⟩
  replace hE := hE.trans hU
  rw [if_neg hx.out, decide_eq_false hx.out]
  go_wp2_with fail
  refine (R1.out _ hE).mono ?_
  rintro e w6 ⟨A3, l3, c3, rfl, hR3, hU⟩
  replace hE := hE.trans hU
  have Hl3 := hide (ref_len hR3)
  have HR3 := hide hR3
  clear hR3
  go_wp2_with fail
  refine (new_any N _ hN.out).mono ?_
  rintro e w7 ⟨A4, l4, c4, rfl, hV4, hU⟩
  replace hE := hE.trans hU
  have HR4 := hide (HR3.out.ext hU)
  go_wp2_with fail
  refine (rsmall_any N _ hN.out).mono ?_
  rintro e w8 ⟨A5, l5, c5, rfl, hR5, hU⟩
  replace hE := hE.trans hU
  have HR5 := hide (HR4.out.ext hU)
  go_wp2_with fail
  refine (lsame_any _ _ N N 12 _ (hV4.ext hU) hR5 (by unfold Fit; have := hN.out; exact Nat.lt_of_lt_of_le this (by decide)) (by unfold Fit; have := hN.out; exact Nat.lt_of_lt_of_le this (by decide)) (by omega)).mono ?_
  rintro e w9 ⟨rfl, hU⟩
  replace hE := hE.trans hU
  rw [decide_eq_true rfl]
  have HR6 := hide (HR5.out.ext hU)
  have h64 : ¬ (l3 : Int) ≤ 64 := by
    intro h
    have : blen x ≤ 64 := by have := Hl3.out; omega
    exact hx.out (blen_le_iff.1 this)
  go_wp2_with fail
  go_ret
  exact ⟨rfl, hE⟩
theorem nsmall_any (A : Option Addr) (n c N : Nat) (bs : List (BitVec 8)) (w : World) (hN : N < 18446744073709551616) (h1 : In8 w A n c bs) :
    Calls Try.prog 6 #[.int .u64 N, .slice A n c] w fun e w' => e = .returned (.bool true) ∧ Ext w w' := by
  obtain ⟨x, hFx, N1, R1⟩ := in_num h1
  by_cases hx : x < 18446744073709551616
  · exact nsmall_yes A n c N x w (hide hN) hFx N1 R1 (hide hx)
  · exact nsmall_no A n c N x w (hide hN) hFx N1 R1 (hide hx)
/-- A word that came in. -/
theorem u64_in {x : Int} (h : (Lit.int .u64 x).wf = true) : ∃ N : Nat, x = (N : Int) ∧ N < 18446744073709551616 := by
  have hb : 0 ≤ x ∧ x ≤ 18446744073709551615 := by
    simpa [Lit.wf, IntKind.min, IntKind.max, IntKind.signed, IntKind.bits] using h
  obtain ⟨k, rfl⟩ := Int.eq_ofNat_of_zero_le hb.1
  exact ⟨k, rfl, by omega⟩
/-- A number that came in. -/
theorem i64_in' {x : Int} (h : (Lit.int .i64 x).wf = true) : -9223372036854775808 ≤ x ∧ x ≤ 9223372036854775807 := by
  simpa [Lit.wf, IntKind.min, IntKind.max, IntKind.signed, IntKind.bits] using h
end Go.Proofs.Ytekpjdfgpggcnaa
