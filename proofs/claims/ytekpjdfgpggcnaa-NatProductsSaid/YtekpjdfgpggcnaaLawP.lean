/- The law on products, quotients and rests, walked. -/
import Derived.Test.YtekpjdfgpggcnaaLawB
namespace Go.Proofs.Ytekpjdfgpggcnaa
open Go.RowKit
open Nt
attribute [local go_sem] steady steadyUpon Cls same_cell by8 str_eq


set_option maxRecDepth 100000 in
set_option maxHeartbeats 4000000 in
theorem nprods_zero (A B : Option Addr) (n c m d x y : Nat) (w : World) (hFx : Fit 12 x) (hFy : Fit 12 y) (N1 : Hid (∀ w', Ext w w' → Calls Try.prog 19 #[.slice A n c] w' (RetN w' x))) (R1 : Hid (∀ w', Ext w w' → Calls Try.prog 20 #[.slice A n c] w' (RetR w' x)))
    (N2 : Hid (∀ w', Ext w w' → Calls Try.prog 19 #[.slice B m d] w' (RetN w' y))) (R2 : Hid (∀ w', Ext w w' → Calls Try.prog 20 #[.slice B m d] w' (RetR w' y))) (hy : y = 0) :
    Calls Try.prog 7 #[.slice A n c, .slice B m d] w fun e w' => e = .returned (.bool true) ∧ Ext w w' := by
  have Hy := hide hy
  clear hy
  go_enter Try.func7, Try.ntmps7
  -- div_zero _ _ x _ (hVx.ext hG) (Hy.out ▸ hVy.ext hG): the contract of Div, 0 its quotient, 0 its rest
  go_wp2_with fail
  refine (nlives_any _).mono ?_
  rintro e w1 ⟨rfl, hE⟩
  go_wp2_with fail
  refine (N1.out _ hE).mono ?_
  rintro e w2 ⟨A1, l1, c1, rfl, hVx, hU⟩
  replace hE := hE.trans hU
  go_wp2_with fail
  refine (N2.out _ hE).mono ?_
  rintro e w3 ⟨A2, l2, c2, rfl, hVy, hU⟩
  replace hE := hE.trans hU
  replace hVx := hVx.ext hU
  go_wp2_with fail
  refine (R1.out _ hE).mono ?_
  rintro e w4 ⟨A7, l7, c7, rfl, hRx, hU⟩
  replace hE := hE.trans hU
  replace hVx := hVx.ext hU
  replace hVy := hVy.ext hU
  go_wp2_with fail
  refine (R2.out _ hE).mono ?_
  rintro e w5 ⟨A8, l8, c8, rfl, hRy, hU⟩
  replace hE := hE.trans hU
  replace hVx := hVx.ext hU
  replace hVy := hVy.ext hU
  replace hRx := hRx.ext hU
  clear hU
  go_wp2_with fail
  refine name_c (fun W hW => ?_)
  -- W = the world with the two numbers in blocks
  have b5 : Box W w5.heap.size 26 (.slice A1 l1 c1) := by rw [hW]; exact Box.alloc (Box.new _ _ _) _
  have b6 : Box W (w5.heap.size + 1) 26 (.slice A2 l2 c2) := by rw [hW]; exact Box.new_at (by simp)
  have hEW : Ext w W := by rw [hW]; exact (hE.alloc _).alloc _
  replace hVx : NatV W (.agg #[.slice A1 l1 c1]) x := by rw [hW]; exact hVx.ext (((Upd.refl _ _).alloc _).alloc _)
  replace hVy : NatV W (.agg #[.slice A2 l2 c2]) y := by rw [hW]; exact hVy.ext (((Upd.refl _ _).alloc _).alloc _)
  replace hRx : RefV W (.slice A7 l7 c7) x := by rw [hW]; exact hRx.ext (((Upd.refl _ _).alloc _).alloc _)
  replace hRy : RefV W (.slice A8 l8 c8) y := by rw [hW]; exact hRy.ext (((Upd.refl _ _).alloc _).alloc _)
  clear hW hE
  have hG : Ext W W := Upd.refl _ _
  have hbx : blen x ≤ 400 := by have := Fit.blen hFx; omega
  have hby : blen y ≤ 400 := by have := Fit.blen hFy; omega
  -- a call: mul_any _ _ x y 12 _ (hVx.ext hG) (hVy.ext hG) hFx hFy (by omega) its contract, w6 the world behind it, A3, l3, c3, rfl, hV3 what is known (Ext last)
  go_wp2_with fail
  refine (mul_any _ _ x y 12 _ (hVx.ext hG) (hVy.ext hG) hFx hFy (by omega)).mono ?_
  rintro e w6 ⟨A3, l3, c3, rfl, hV3, hU⟩
  replace hG := hG.trans hU
  -- a call: rmul_any _ _ x y 400 _ (hRx.ext hG) (hRy.ext hG) hbx hby (by omega) its contract, w7 the world behind it, A4, l4, c4, rfl, hV4 what is known (Ext last)
  go_wp2_with fail
  refine (rmul_any _ _ x y 400 _ (hRx.ext hG) (hRy.ext hG) hbx hby (by omega)).mono ?_
  rintro e w7 ⟨A4, l4, c4, rfl, hV4, hU⟩
  replace hG := hG.trans hU
  replace hV3 := hV3.ext hU
  -- a call: lsame_any _ _ (x * y) (x * y) 24 _ hV3 hV4 (Fit.mul hFx hFy) (Fit.mul hFx hFy) (by omega) its contract, w8 the world behind it, rfl what is known (Ext last)
  go_wp2_with fail
  refine (lsame_any _ _ (x * y) (x * y) 24 _ hV3 hV4 (Fit.mul hFx hFy) (Fit.mul hFx hFy) (by omega)).mono ?_
  rintro e w8 ⟨rfl, hU⟩
  replace hG := hG.trans hU
  rw [decide_eq_true rfl]
  have k5 := (b5.ext hG).cell
  have k6 := (b6.ext hG).cell
  -- a call: div_zero _ _ x _ (hVx.ext hG) (Hy.out ▸ hVy.ext hG) its contract, w9 the world behind it, A5, l5, c5, A6, l6, c6, rfl, hV5, hV6 what is known (Ext last)
  go_wp2_with fail
  refine (div_zero _ _ x _ (hVx.ext hG) (Hy.out ▸ hVy.ext hG)).mono ?_
  rintro e w9 ⟨A5, l5, c5, A6, l6, c6, rfl, hV5, hV6, hU⟩
  replace hG := hG.trans hU
  replace k6 := (((b6.ext hG).alloc (.cells #[.slice A5 l5 c5] 26)).alloc (.cells #[.slice A6 l6 c6] 26)).cell
  clear k5
  go_wp2_with fail
  refine name_c (fun X hX => ?_)
  have b9 : Box X w9.heap.size 26 (.slice A5 l5 c5) := by rw [hX]; exact Box.alloc (Box.new _ _ _) _
  have b10 : Box X (w9.heap.size + 1) 26 (.slice A6 l6 c6) := by rw [hX]; exact Box.new_at (by simp)
  replace hG : Ext W X := by rw [hX]; exact (hG.alloc _).alloc _
  replace hV5 : NatV X (.agg #[.slice A5 l5 c5]) 0 := by rw [hX]; exact hV5.ext (((Upd.refl _ _).alloc _).alloc _)
  replace hV6 : NatV X (.agg #[.slice A6 l6 c6]) 0 := by rw [hX]; exact hV6.ext (((Upd.refl _ _).alloc _).alloc _)
  have hX2 : Ext X X := Upd.refl _ _
  clear hX k6 hU hV3 hV4
  -- a call behind X
  go_wp2_with fail
  refine (zero_any _ y _ (hVy.ext hG)).mono ?_
  rintro e w10 ⟨rfl, hU⟩
  replace hX2 := hX2.trans hU
  rw [decide_eq_true Hy.out]
  have k9 := (b9.ext hX2).cell
  -- a call behind X
  go_wp2_with fail
  refine (zero_any _ 0 _ (hV5.ext hX2)).mono ?_
  rintro e w11 ⟨rfl, hU⟩
  replace hX2 := hX2.trans hU
  rw [decide_eq_true rfl]
  have k10 := (b10.ext hX2).cell
  -- a call behind X
  go_wp2_with fail
  refine (zero_any _ 0 _ (hV6.ext hX2)).mono ?_
  rintro e w12 ⟨rfl, hU⟩
  replace hX2 := hX2.trans hU
  rw [decide_eq_true rfl]
  go_wp2_with fail
  go_ret
  exact ⟨rfl, (hEW.trans hG).trans hX2⟩
set_option maxRecDepth 100000 in
set_option maxHeartbeats 4000000 in
theorem nprods_more (A B : Option Addr) (n c m d x y : Nat) (w : World) (hFx : Fit 12 x) (hFy : Fit 12 y) (N1 : Hid (∀ w', Ext w w' → Calls Try.prog 19 #[.slice A n c] w' (RetN w' x))) (R1 : Hid (∀ w', Ext w w' → Calls Try.prog 20 #[.slice A n c] w' (RetR w' x)))
    (N2 : Hid (∀ w', Ext w w' → Calls Try.prog 19 #[.slice B m d] w' (RetN w' y))) (R2 : Hid (∀ w', Ext w w' → Calls Try.prog 20 #[.slice B m d] w' (RetR w' y))) (hy : 0 < y) :
    Calls Try.prog 7 #[.slice A n c, .slice B m d] w fun e w' => e = .returned (.bool true) ∧ Ext w w' := by
  have hFq : Fit 12 (x / y) := hFx.le (Nat.div_le_self _ _)
  have hFr : Fit 12 (x % y) := hFy.le (Nat.le_of_lt (Nat.mod_lt _ hy))
  go_enter Try.func7, Try.ntmps7
  -- div_any _ _ x y 12 _ (hVx.ext hG) (hVy.ext hG) hFx hFy (by omega) hy: the contract of Div, (x / y) its quotient, (x % y) its rest
  go_wp2_with fail
  refine (nlives_any _).mono ?_
  rintro e w1 ⟨rfl, hE⟩
  go_wp2_with fail
  refine (N1.out _ hE).mono ?_
  rintro e w2 ⟨A1, l1, c1, rfl, hVx, hU⟩
  replace hE := hE.trans hU
  go_wp2_with fail
  refine (N2.out _ hE).mono ?_
  rintro e w3 ⟨A2, l2, c2, rfl, hVy, hU⟩
  replace hE := hE.trans hU
  replace hVx := hVx.ext hU
  go_wp2_with fail
  refine (R1.out _ hE).mono ?_
  rintro e w4 ⟨A7, l7, c7, rfl, hRx, hU⟩
  replace hE := hE.trans hU
  replace hVx := hVx.ext hU
  replace hVy := hVy.ext hU
  go_wp2_with fail
  refine (R2.out _ hE).mono ?_
  rintro e w5 ⟨A8, l8, c8, rfl, hRy, hU⟩
  replace hE := hE.trans hU
  replace hVx := hVx.ext hU
  replace hVy := hVy.ext hU
  replace hRx := hRx.ext hU
  clear hU
  go_wp2_with fail
  refine name_c (fun W hW => ?_)
  -- W = the world with the two numbers in blocks
  have b5 : Box W w5.heap.size 26 (.slice A1 l1 c1) := by rw [hW]; exact Box.alloc (Box.new _ _ _) _
  have b6 : Box W (w5.heap.size + 1) 26 (.slice A2 l2 c2) := by rw [hW]; exact Box.new_at (by simp)
  have hEW : Ext w W := by rw [hW]; exact (hE.alloc _).alloc _
  replace hVx : NatV W (.agg #[.slice A1 l1 c1]) x := by rw [hW]; exact hVx.ext (((Upd.refl _ _).alloc _).alloc _)
  replace hVy : NatV W (.agg #[.slice A2 l2 c2]) y := by rw [hW]; exact hVy.ext (((Upd.refl _ _).alloc _).alloc _)
  replace hRx : RefV W (.slice A7 l7 c7) x := by rw [hW]; exact hRx.ext (((Upd.refl _ _).alloc _).alloc _)
  replace hRy : RefV W (.slice A8 l8 c8) y := by rw [hW]; exact hRy.ext (((Upd.refl _ _).alloc _).alloc _)
  clear hW hE
  have hG : Ext W W := Upd.refl _ _
  have hbx : blen x ≤ 400 := by have := Fit.blen hFx; omega
  have hby : blen y ≤ 400 := by have := Fit.blen hFy; omega
  -- a call: mul_any _ _ x y 12 _ (hVx.ext hG) (hVy.ext hG) hFx hFy (by omega) its contract, w6 the world behind it, A3, l3, c3, rfl, hV3 what is known (Ext last)
  go_wp2_with fail
  refine (mul_any _ _ x y 12 _ (hVx.ext hG) (hVy.ext hG) hFx hFy (by omega)).mono ?_
  rintro e w6 ⟨A3, l3, c3, rfl, hV3, hU⟩
  replace hG := hG.trans hU
  -- a call: rmul_any _ _ x y 400 _ (hRx.ext hG) (hRy.ext hG) hbx hby (by omega) its contract, w7 the world behind it, A4, l4, c4, rfl, hV4 what is known (Ext last)
  go_wp2_with fail
  refine (rmul_any _ _ x y 400 _ (hRx.ext hG) (hRy.ext hG) hbx hby (by omega)).mono ?_
  rintro e w7 ⟨A4, l4, c4, rfl, hV4, hU⟩
  replace hG := hG.trans hU
  replace hV3 := hV3.ext hU
  -- a call: lsame_any _ _ (x * y) (x * y) 24 _ hV3 hV4 (Fit.mul hFx hFy) (Fit.mul hFx hFy) (by omega) its contract, w8 the world behind it, rfl what is known (Ext last)
  go_wp2_with fail
  refine (lsame_any _ _ (x * y) (x * y) 24 _ hV3 hV4 (Fit.mul hFx hFy) (Fit.mul hFx hFy) (by omega)).mono ?_
  rintro e w8 ⟨rfl, hU⟩
  replace hG := hG.trans hU
  rw [decide_eq_true rfl]
  have k5 := (b5.ext hG).cell
  have k6 := (b6.ext hG).cell
  -- a call: div_any _ _ x y 12 _ (hVx.ext hG) (hVy.ext hG) hFx hFy (by omega) hy its contract, w9 the world behind it, A5, l5, c5, A6, l6, c6, rfl, hV5, hV6 what is known (Ext last)
  go_wp2_with fail
  refine (div_any _ _ x y 12 _ (hVx.ext hG) (hVy.ext hG) hFx hFy (by omega) hy).mono ?_
  rintro e w9 ⟨A5, l5, c5, A6, l6, c6, rfl, hV5, hV6, hU⟩
  replace hG := hG.trans hU
  replace k6 := (((b6.ext hG).alloc (.cells #[.slice A5 l5 c5] 26)).alloc (.cells #[.slice A6 l6 c6] 26)).cell
  clear k5
  go_wp2_with fail
  refine name_c (fun X hX => ?_)
  have b9 : Box X w9.heap.size 26 (.slice A5 l5 c5) := by rw [hX]; exact Box.alloc (Box.new _ _ _) _
  have b10 : Box X (w9.heap.size + 1) 26 (.slice A6 l6 c6) := by rw [hX]; exact Box.new_at (by simp)
  replace hG : Ext W X := by rw [hX]; exact (hG.alloc _).alloc _
  replace hV5 : NatV X (.agg #[.slice A5 l5 c5]) (x / y) := by rw [hX]; exact hV5.ext (((Upd.refl _ _).alloc _).alloc _)
  replace hV6 : NatV X (.agg #[.slice A6 l6 c6]) (x % y) := by rw [hX]; exact hV6.ext (((Upd.refl _ _).alloc _).alloc _)
  have hX2 : Ext X X := Upd.refl _ _
  clear hX k6 hU hV3 hV4
  -- a call behind X
  go_wp2_with fail
  refine (zero_any _ y _ (hVy.ext hG)).mono ?_
  rintro e w10 ⟨rfl, hU⟩
  replace hX2 := hX2.trans hU
  rw [decide_eq_false (by omega)]
  -- a call behind X
  go_wp2_with fail
  refine (rdiv_any _ _ x y 400 _ (hRx.ext (hG.trans hX2)) (hRy.ext (hG.trans hX2)) hbx hby (by omega) hy).mono ?_
  rintro e w11 ⟨A7, l7, c7, A8, l8, c8, rfl, hV7, hV8, hU⟩
  replace hX2 := hX2.trans hU
  have k9 := (b9.ext hX2).cell
  -- a call behind X
  go_wp2_with fail
  refine (lsame_any _ _ (x / y) (x / y) 12 _ (hV5.ext hX2) hV7 hFq hFq (by omega)).mono ?_
  rintro e w12 ⟨rfl, hU⟩
  replace hX2 := hX2.trans hU
  rw [decide_eq_true rfl]
  have k10 := (b10.ext hX2).cell
  -- a call behind X
  go_wp2_with fail
  refine (lsame_any _ _ (x % y) (x % y) 12 _ (hV6.ext hX2) (hV8.ext hU) hFr hFr (by omega)).mono ?_
  rintro e w13 ⟨rfl, hU⟩
  replace hX2 := hX2.trans hU
  rw [decide_eq_true rfl]
  have k5 := (b5.ext (hG.trans hX2)).cell
  -- a call behind X
  go_wp2_with fail
  refine (lsame_any _ _ x x 12 _ (hVx.ext (hG.trans hX2)) (hRx.ext (hG.trans hX2)) hFx hFx (by omega)).mono ?_
  rintro e w14 ⟨rfl, hU⟩
  replace hX2 := hX2.trans hU
  rw [decide_eq_true rfl]
  have k6 := (b6.ext (hG.trans hX2)).cell
  -- a call behind X
  go_wp2_with fail
  refine (lsame_any _ _ y y 12 _ (hVy.ext (hG.trans hX2)) (hRy.ext (hG.trans hX2)) hFy hFy (by omega)).mono ?_
  rintro e w15 ⟨rfl, hU⟩
  replace hX2 := hX2.trans hU
  rw [decide_eq_true rfl]
  go_wp2_with fail
  go_ret
  exact ⟨rfl, (hEW.trans hG).trans hX2⟩
theorem nprods_any (A B : Option Addr) (n c m d : Nat) (bs cs : List (BitVec 8)) (w : World) (h1 : In8 w A n c bs) (h2 : In8 w B m d cs) :
    Calls Try.prog 7 #[.slice A n c, .slice B m d] w fun e w' => e = .returned (.bool true) ∧ Ext w w' := by
  obtain ⟨x, hFx, N1, R1⟩ := in_num h1
  obtain ⟨y, hFy, N2, R2⟩ := in_num h2
  rcases Nat.eq_zero_or_pos y with hy | hy
  · exact nprods_zero A B n c m d x y w hFx hFy N1 R1 N2 R2 hy
  · exact nprods_more A B n c m d x y w hFx hFy N1 R1 N2 R2 hy
end Go.Proofs.Ytekpjdfgpggcnaa
